/- Some texts of this claim, joined: contracts of the functions that it reaches, and plain laws. -/
import Derived.Test.YtoblhcieidljjaaGreatDoorProg
import Derived.Test.YtoblhcieidljjaaGreatDoorShelf
import Derived.Test.YtoblhcieidljjaaGreatDoorJDA4
import Derived.Test.YtoblhcieidljjaaGreatDoorJDA13
import Derived.Test.YtoblhcieidljjaaGreatDoorJDA7
import Derived.Shelf.RegionOpenPlain
import Derived.Test.YtoblhcieidljjaaGreatDoorJDA9
import Derived.Test.YtoblhcieidljjaaGreatDoorJDA3
import Derived.Test.YtoblhcieidljjaaGreatDoorJDA20

set_option linter.unusedSimpArgs false
set_option linter.unusedVariables false
/- Walks: strings.Cut at a blank; declaration.number. -/
namespace Go.Proofs.YtoblhcieidljjaaGreatDoor
open Go.RowKit

theorem idxB_at : ∀ (a X : List UInt8) (c : UInt8), (∀ x ∈ a, x ≠ c) → Lib.indexByte (a ++ c :: X) c = a.length
  | [], X, c, _ => by simp [Lib.indexByte]
  | b :: a, X, c, h => by
    have hb : (b == c) = false := by rw [beq_eq_false_iff_ne]; exact h b (by simp)
    have ih := idxB_at a X c (fun x hx => h x (List.mem_cons_of_mem _ hx))
    simp only [List.cons_append, Lib.indexByte, hb, ih]
    have : ((a.length : Int) == -1) = false := by rw [beq_eq_false_iff_ne]; omega
    simp [this]
theorem cutl_any (S : ByteArray) (a X : List UInt8) (hS : S.data.toList = a ++ 32 :: X) (ha : ∀ c ∈ a, c ≠ 32) (hz : S.size ≤ 1073741824) (w : World) :
    Calls Tryz.prog 169 #[.string S, .string ⟨#[32]⟩] w fun e w' => e = .returned (.tuple #[.string (bs a), .string (bs X), .bool true]) ∧ Fr none w w' := by
  have hi : Lib.indexByte S.data.toList 32 = (a.length : Int) := by rw [hS]; exact idxB_at a X 32 ha
  have hl : S.size = a.length + (X.length + 1) := by rw [size_list, hS]; simp
  obtain ⟨i, hii⟩ : ∃ i, i = a.length := ⟨_, rfl⟩
  rw [← hii] at hi hl
  have x1 : S.extract 0 i = bs a := by
    apply ByteArray.ext
    apply Array.toList_inj.1
    rw [Lib.extract_data, hS, hii]
    simp [bs]
  have x2 : S.extract (i + 1) S.size = bs X := by
    apply ByteArray.ext
    apply Array.toList_inj.1
    rw [Lib.extract_to_end, hS, hii]
    simp [bs]
  have c1 : (0 : Int) ≤ (i : Int) := by omega
  have c2 : (i : Int) ≤ (S.size : Int) := by omega
  have c3 : (0 : Int) ≤ (i : Int) + 1 := by omega
  have c4 : (i : Int) + 1 ≤ (S.size : Int) := by omega
  have mixed : Tryz.prog.follows Departure.mixedOrders = true := by kernel_rfl
  have cw : IntKind.i64.wrap ((i : Int) + 1) = (i : Int) + 1 := by rw [IntKind.wrap_i64]; omega
  have ct : ((i : Int) + 1).toNat = i + 1 := by omega
  have HI := Lib.hid hi
  have X1 := Lib.hid x1
  have X2 := Lib.hid x2
  clear hi hl hii hS ha x1 x2
  go_enter Tryz.func169, Tryz.ntmps169
  go_wp2_with (go_at_call 189; refine (Tryz.stringslite_Index_one S 32 _).mono ?_; rintro e w' ⟨rfl, hw⟩; rw [hw]; clear hw w'; rw [HI.out])
  go_region_o
  go_wp2
  go_ret3
  rw [X1.out, X2.out]
  exact ⟨rfl, (Fr.refl _ _).drew⟩
theorem cut_any (S : ByteArray) (a X : List UInt8) (hS : S.data.toList = a ++ 32 :: X) (ha : ∀ c ∈ a, c ≠ 32) (hz : S.size ≤ 1073741824) (w : World) :
    Calls Tryz.prog 131 #[.string S, .string ⟨#[32]⟩] w fun e w' => e = .returned (.tuple #[.string (bs a), .string (bs X), .bool true]) ∧ Fr none w w' := by
  go_enter Tryz.func131, Tryz.ntmps131
  go_wp2_with fail
  refine (cutl_any S a X hS ha hz _).mono ?_
  rintro e w2 ⟨rfl, F⟩
  go_wp2_with fail
  go_ret3
  exact ⟨rfl, F⟩

theorem itoa_blank {k : Int} (h0 : 0 ≤ k) (h1 : k < 100) : ∀ c ∈ Lib.itoa k, c ≠ 32 := fun c hc e => by
  obtain ⟨n, rfl⟩ := Int.eq_ofNat_of_zero_le h0
  rw [Lib.itoa_nonneg] at hc
  have := dec_dg n c hc
  subst e
  exact absurd this (by decide)
theorem atoi_itoa {k : Int} (h0 : 0 ≤ k) : Lib.atoi (Lib.itoa k) = some k := by
  obtain ⟨n, rfl⟩ := Int.eq_ofNat_of_zero_le h0
  rw [Lib.itoa_nonneg, atoi_num (dec_ne n) (dec_dg n), numV_dec]
theorem num_any (S : ByteArray) (k : Int) (X : List UInt8) (h0 : 0 ≤ k) (h1 : k < 100) (hS : S.data.toList = Lib.itoa k ++ 32 :: X) (hzS : S.size ≤ 1073741824) (w : World) :
    Calls Tryz.prog 87 #[.string S] w fun e w' => e = .returned (.tuple #[.int .i64 k, .string (bs X)]) ∧ Fr none w w' := by
  have ha := atoi_itoa h0
  rw [← bs_list (Lib.itoa k)] at ha
  have hz : (bs (Lib.itoa k)).size ≤ 18 := by
    rw [bs_size]
    have := itoa_len4 (k := k) ⟨by omega, by omega⟩
    omega
  have HB := Lib.hid (itoa_blank h0 h1)
  have HS := Lib.hid hS
  have HA := Lib.hid ha
  have HZ := Lib.hid hz
  clear ha hz hS
  go_enter Tryz.func87, Tryz.ntmps87
  go_wp2_with fail
  refine (cut_any S _ X HS.out HB.out hzS _).mono ?_
  rintro e w1 ⟨rfl, F1⟩
  go_wp2_with fail
  refine (Tryz.strconv_Atoi _ k HZ.out HA.out _).mono ?_
  rintro e w2 ⟨rfl, t, hw2⟩
  have F2 : Fr none w1 w2 := hw2 ▸ Fr.of_below (Lib.bytesWorld_below _ _ _)
  clear hw2
  go_wp2_with fail
  go_ret2
  exact ⟨rfl, F1.pure F2⟩
end Go.Proofs.YtoblhcieidljjaaGreatDoor

/- Walks: the reader of notation: rest. What holds between its statements. -/
namespace Go.Proofs.YtoblhcieidljjaaGreatDoor
open Go.RowKit

/-- Between two entries: what has been read of a trust's nodes and inner trusts; the reader stands before v. -/
def LoopI (w : World) (g : Nat) (S : ByteArray) (n : Nat) (nodes : List Int) (inner : List Tr) (v : List UInt8) (A1 : Option Addr) (c1 : Nat) (A2 : Option Addr) (c2 : Nat) (cells : List Value) (wr : World) : Prop :=
  Fr (some g) w wr ∧ w.heap.size + 2 ≤ wr.heap.size ∧ RdS wr g S v ∧ TB wr w.heap.size (.int .i64 0) (.slice none 0 0) (.slice none 0 0) ∧
  TB wr (w.heap.size + 1) (.int .i64 (n : Int)) (.slice A1 nodes.length c1) (.slice A2 inner.length c2) ∧
  wr.ownsRow (w.heap.size + 2) 3 1 (.slice A1 nodes.length c1) nodes.length (nodes.map (Value.int .i64)) ∧
  wr.ownsRow (w.heap.size + 2) 31 3 (.slice A2 inner.length c2) inner.length cells ∧ TrsD wr (D2 (w.heap.size + 2) wr (.slice A1 nodes.length c1) (.slice A2 inner.length c2)) cells inner ∧
  Apart (.slice A1 nodes.length c1) (.slice A2 inner.length c2) ∧ (∀ x ∈ nodes, 0 ≤ x ∧ x ≤ 9999) ∧ nodes.length + inner.length + v.length ≤ 6001

theorem LoopI.move {w : World} {g : Nat} {S : ByteArray} {n : Nat} {nodes : List Int} {inner : List Tr} {v v' : List UInt8} {A1 : Option Addr} {c1 : Nat} {A2 : Option Addr} {c2 : Nat} {cells : List Value} {wr w' : World}
    (h : LoopI w g S n nodes inner v A1 c1 A2 c2 cells wr) (hg : g < w.heap.size) (R : RdS w' g S v') (F : Fr (some g) wr w') (hv : v'.length ≤ v.length) : LoopI w g S n nodes inner v' A1 c1 A2 c2 cells w' := by
  obtain ⟨h1, h2, h3, h4, h5, h6, h7, h8, h9, h10, h11⟩ := h
  have hz := F.size
  exact ⟨h1.same F, by omega, R, h4.fr F (by simp; omega), h5.fr F (by simp; omega), own_fr h6 F (by simp; omega), own_fr h7 F (by simp; omega), TrsD.keep (d2_fr F (by simp; omega)) _ _ h8, h9, h10, by omega⟩
theorem LoopI.node {w : World} {g : Nat} {S : ByteArray} {n : Nat} {nodes : List Int} {inner : List Tr} {v : List UInt8} {A1 : Option Addr} {c1 : Nat} {A2 : Option Addr} {c2 : Nat} {cells : List Value} {wr w' : World} {k : Nat} {A' : Option Addr} {c' : Nat}
    (h : LoopI w g S n nodes inner v A1 c1 A2 c2 cells wr) (hg : g < w.heap.size) (hk : k ≤ 9999) (own : w'.ownsRow (w.heap.size + 2) 3 1 (.slice A' (nodes.length + 1) c') (nodes.length + 1) (nodes.map (Value.int .i64) ++ [.int .i64 (k : Int)]))
    (F : Fr (Value.slice A1 nodes.length c1).ownBlock wr w') (nb : NewOr wr.heap.size (.slice A1 nodes.length c1) (.slice A' (nodes.length + 1) c')) (hl : nodes.length + 1 + inner.length + v.length ≤ 6001) :
    LoopI w g S n (nodes ++ [(k : Int)]) inner v A' c' A2 c2 cells (w'.setCell ⟨w.heap.size + 1, 1, none⟩ (.slice A' (nodes.length + 1) c')) := by
  obtain ⟨h1, h2, h3, h4, h5, h6, h7, h8, h9, h10, h11⟩ := h
  have hz := F.size
  have G := Fr.set1 w' ⟨w.heap.size + 1, 1, none⟩ (.slice A' (nodes.length + 1) c')
  have hzG := G.size
  have og := own_blk_ge h6
  have hl' : (nodes ++ [(k : Int)]).length = nodes.length + 1 := by simp
  refine ⟨(h1.own F (fun q e => by have := og q e; omega)).own G (by simp), by omega, (h3.fr F (own_ne h6 (by omega))).fr G (by simp; omega), (h4.fr F (own_ne h6 (by omega))).fr G (by simp), ?_, ?_, ?_, ?_, ?_, ?_, ?_⟩
  · rw [hl']; exact (h5.fr F (own_ne h6 (by omega))).set1 _
  · rw [hl', List.map_append]; exact own_fr own G (by simp)
  · exact own_fr (own_other h7 F h9.symm) G (by simp)
  · rw [hl']; exact TrsD.keep (d2_fr G (by simp)) _ _ (TrsD.keep (d2_app F nb) _ _ h8)
  · rw [hl']; exact h9.app (H := wr.heap.size) (fun b hb => (h7.lt b hb).2) nb
  · intro x hx
    rcases List.mem_append.1 hx with hx | hx
    · exact h10 x hx
    · simp at hx; omega
  · rw [hl']; exact hl
theorem LoopI.inner_ {w : World} {g : Nat} {S : ByteArray} {n : Nat} {nodes : List Int} {inner : List Tr} {v : List UInt8} {A1 : Option Addr} {c1 : Nat} {A2 : Option Addr} {c2 : Nat} {cells : List Value} {wr w' : World} {t : Tr} {B' : Nat} {th : Int} {a1 : Option Addr} {n1 e1 : Nat} {a2 : Option Addr} {n2 e2 : Nat} {A' : Option Addr} {c' : Nat}
    (h : LoopI w g S n nodes inner v A1 c1 A2 c2 cells wr) (hg : g < w.heap.size) (hB : w.heap.size + 2 ≤ B') (hT : TrD wr (Dn B' wr) (.agg #[.int .i64 th, .slice a1 n1 e1, .slice a2 n2 e2]) t) (hv1 : ∀ b, (Value.slice A1 nodes.length c1).ownBlock = some b → b < B') (hv2 : ∀ b, (Value.slice A2 inner.length c2).ownBlock = some b → b < B')
    (own : w'.ownsRow (w.heap.size + 2) 31 3 (.slice A' (inner.length + 1) c') (inner.length + 1) (cells ++ [.int .i64 th, .slice a1 n1 e1, .slice a2 n2 e2]))
    (F : Fr (Value.slice A2 inner.length c2).ownBlock wr w') (nb : NewOr wr.heap.size (.slice A2 inner.length c2) (.slice A' (inner.length + 1) c')) (hl : nodes.length + inner.length + 1 + v.length ≤ 6001) :
    LoopI w g S n nodes (inner ++ [t]) v A1 c1 A' c' (cells ++ [.int .i64 th, .slice a1 n1 e1, .slice a2 n2 e2]) (w'.setCell ⟨w.heap.size + 1, 2, none⟩ (.slice A' (inner.length + 1) c')) := by
  obtain ⟨h1, h2, h3, h4, h5, h6, h7, h8, h9, h10, h11⟩ := h
  have hz := F.size
  have G := Fr.set1 w' ⟨w.heap.size + 1, 2, none⟩ (.slice A' (inner.length + 1) c')
  have hzG := G.size
  have og := own_blk_ge h7
  have hl' : (inner ++ [t]).length = inner.length + 1 := by simp
  refine ⟨(h1.own F (fun q e => by have := og q e; omega)).own G (by simp), by omega, (h3.fr F (own_ne h7 (by omega))).fr G (by simp; omega), (h4.fr F (own_ne h7 (by omega))).fr G (by simp), ?_, ?_, ?_, ?_, ?_, h10, ?_⟩
  · rw [hl']; exact (h5.fr F (own_ne h7 (by omega))).set2 _
  · exact own_fr (own_other h6 F h9) G (by simp)
  · rw [hl']; exact own_fr own G (by simp)
  · rw [hl']
    exact TrsD.append (TrsD.keep (d2_fr G (by simp)) _ _ (TrsD.keep (d2_app' F nb) _ _ h8))
      (by simp only [TrsD]; exact ⟨_, _, _, [], rfl, TrD.keep (d2_fr G (by simp)) _ _ (TrD.keep (d2_app' F nb) _ _ (TrD.keep (dn_d2 hB hv1 hv2) _ _ hT)), rfl⟩)
  · rw [hl']; exact (h9.symm.app (H := wr.heap.size) (fun b hb => (h6.lt b hb).2) nb).symm
  · rw [hl']; omega
/-- What stands in the trust's block, written into the result's, is the trust. -/
theorem LoopI.done {w : World} {g : Nat} {S : ByteArray} {n : Nat} {nodes : List Int} {inner : List Tr} {v : List UInt8} {A1 : Option Addr} {c1 : Nat} {A2 : Option Addr} {c2 : Nat} {cells : List Value} {wr w' : World}
    (h : LoopI w g S n nodes inner v A1 c1 A2 c2 cells wr) (hn : n ≤ 9999) (F : Fr (some w.heap.size) wr w') : TrD w' (Dn w.heap.size w') (.agg #[.int .i64 (n : Int), .slice A1 nodes.length c1, .slice A2 inner.length c2]) (.mk n nodes inner) := by
  obtain ⟨h1, h2, h3, h4, h5, h6, h7, h8, h9, h10, h11⟩ := h
  have hk : ∀ k, Dn (w.heap.size + 2) wr k → Dn w.heap.size w' k ∧ w'.heap[k]? = wr.heap[k]? := fun k hk => by
    obtain ⟨k0, e0⟩ := dn_fr (B := w.heap.size + 2) F (by simp) k hk
    exact ⟨⟨by have := k0.1; omega, k0.2⟩, e0⟩
  exact TrD.mk_ (by constructor <;> omega) ((SlD.own_dn h6).keep hk) (fun x hx => by have := h10 x hx; constructor <;> omega) ((SlD.own_dn h7).keep hk) (by omega) (by omega) (TrsD.keep hk _ _ (TrsD.keep d2_dn _ _ h8))
theorem RdS.left {w : World} {g : Nat} {S : ByteArray} {u : List UInt8} (h : RdS w g S u) : S.size - atOf w g = u.length := by
  obtain ⟨k, T, h1, h2, _⟩ := h.parts
  rw [h1.atOf]
  omega
end Go.Proofs.YtoblhcieidljjaaGreatDoor

/- Walks: the reader of notation: rest. -/
namespace Go.Proofs.YtoblhcieidljjaaGreatDoor
open Go.RowKit

/-- What rest leaves. -/
def RestP (p : Option Tr × List UInt8) (w : World) (g : Nat) (S : ByteArray) (e : Ending) (w' : World) : Prop :=
  ∃ (th : Int) (A1 : Option Addr) (n1 c1 : Nat) (A2 : Option Addr) (n2 c2 : Nat) (b : Bool), e = .returned (.tuple #[.agg #[.int .i64 th, .slice A1 n1 c1, .slice A2 n2 c2], .bool b]) ∧ b = p.1.isSome ∧ RdS w' g S p.2 ∧ Fr (some g) w w' ∧
    ∀ t, p.1 = some t → TrD w' (Dn w.heap.size w') (.agg #[.int .i64 th, .slice A1 n1 c1, .slice A2 n2 c2]) t
theorem LoopI.no {w : World} {g : Nat} {S : ByteArray} {n : Nat} {nodes : List Int} {inner : List Tr} {v : List UInt8} {A1 : Option Addr} {c1 : Nat} {A2 : Option Addr} {c2 : Nat} {cells : List Value} {wr : World}
    (h : LoopI w g S n nodes inner v A1 c1 A2 c2 cells wr) (hg : g < w.heap.size) : RestP (none, v) w g S (.returned (.tuple #[.agg #[.int .i64 (n : Int), .slice A1 nodes.length c1, .slice A2 inner.length c2], .bool false]))
      (((wr.setCell ⟨w.heap.size, 0, none⟩ (.int .i64 (n : Int))).setCell ⟨w.heap.size, 1, none⟩ (.slice A1 nodes.length c1)).setCell ⟨w.heap.size, 2, none⟩ (.slice A2 inner.length c2)) := by
  have F := fr_fill3 wr w.heap.size (.int .i64 (n : Int)) (.slice A1 nodes.length c1) (.slice A2 inner.length c2)
  exact ⟨_, _, _, _, _, _, _, _, rfl, rfl, h.2.2.1.fr F (by simp; omega), h.1.own F (by simp), fun t ht => by cases ht⟩
theorem LoopI.yes {w : World} {g : Nat} {S : ByteArray} {n : Nat} {nodes : List Int} {inner : List Tr} {v : List UInt8} {A1 : Option Addr} {c1 : Nat} {A2 : Option Addr} {c2 : Nat} {cells : List Value} {wr : World}
    (h : LoopI w g S n nodes inner v A1 c1 A2 c2 cells wr) (hg : g < w.heap.size) (hn : n ≤ 9999) : RestP (some (.mk n nodes inner), v) w g S (.returned (.tuple #[.agg #[.int .i64 (n : Int), .slice A1 nodes.length c1, .slice A2 inner.length c2], .bool true]))
      (((wr.setCell ⟨w.heap.size, 0, none⟩ (.int .i64 (n : Int))).setCell ⟨w.heap.size, 1, none⟩ (.slice A1 nodes.length c1)).setCell ⟨w.heap.size, 2, none⟩ (.slice A2 inner.length c2)) := by
  have F := fr_fill3 wr w.heap.size (.int .i64 (n : Int)) (.slice A1 nodes.length c1) (.slice A2 inner.length c2)
  exact ⟨_, _, _, _, _, _, _, _, rfl, rfl, h.2.2.1.fr F (by simp; omega), h.1.own F (by simp), fun t ht => by injection ht with ht; subst ht; exact h.done hn F⟩

set_option maxRecDepth 100000 in
set_option maxHeartbeats 8000000 in
theorem rest_any (f : Nat) : ∀ (n g : Nat) (S : ByteArray) (u : List UInt8) (w : World), u.length < f → n ≤ 9999 → RdS w g S u → S.size ≤ 6001 →
    Calls Tryz.prog 138 #[.pointer (some ⟨g, 0, none⟩), .int .i64 (n : Int)] w (RestP (restP f n u) w g S) := by
  induction f using Nat.strongRecOn with
  | _ f ih =>
  intro n g S u w hf hn h hS
  obtain ⟨f, rfl⟩ : ∃ f', f = f' + 1 := ⟨f - 1, by omega⟩
  have hg := h.lt
  have hu := h.le
  have IH := Lib.hid ih
  clear ih
  by_cases hof : tok u = [111, 102]
  · by_cases hpar : tok (nxt u) = [40]
    · have hE : restP (f + 1) n u = loopP f n [] [] (nxt (nxt u)) := by simp only [restP, if_pos hof, if_pos hpar]
      have HE := Lib.hid hE
      have HOF := Lib.hid hof
      have HPAR := Lib.hid hpar
      have hl1 : (nxt u).length < u.length := nxt_lt (by rw [hof]; simp)
      have hl2 : (nxt (nxt u)).length < (nxt u).length := nxt_lt (by rw [hpar]; simp)
      clear hE hof hpar
      go_enter Tryz.func138, Tryz.ntmps138
      go_wp2_with fail
      generalize hW : (w.alloc _).alloc _ = w1
      have hz : w1.heap.size = w.heap.size + 2 := by rw [← hW]; simp
      have F1 : Fr none w w1 := hW ▸ ((Fr.refl _ w).alloc _).alloc _
      have b6 : TB w1 w.heap.size (.int .i64 0) (.slice none 0 0) (.slice none 0 0) := by
        rw [← hW]; exact (Below.heap_alloc _ _ _ (by simp)).trans (blk_new _ _)
      have b7 : TB w1 (w.heap.size + 1) (.int .i64 (n : Int)) (.slice none 0 0) (.slice none 0 0) := by
        rw [← hW]; exact blk_new_at (by simp) _
      have S1 := h.fr F1 (by simp)
      clear hW h
      refine (take_yes g S ⟨#[111, 102]⟩ u _ S1 hS HOF.out).mono ?_
      rintro e w2 ⟨rfl, S2, F2⟩
      go_wp2_with fail
      refine (take_yes g S ⟨#[40]⟩ (nxt u) _ S2 hS HPAR.out).mono ?_
      rintro e w3 ⟨rfl, S3, F3⟩
      have F13 := F2.same F3
      have hz3 := F13.size
      have L0 : LoopI w g S n [] [] (nxt (nxt u)) none 0 none 0 [] w3 := ⟨(F1.mono (r := some g)).same F13, by omega, S3, b6.fr F13 (by simp; omega), b7.fr F13 (by simp; omega), World.ownsRow_nil _ _ _ _, World.ownsRow_nil _ _ _ _, by simp [TrsD], fun b hb => by simp [Value.ownBlock] at hb, by simp, by simp; omega⟩
      clear b6 b7 S1 S2 S3 F2 F3 F13 F1 hz hz3
      go_wp2_with fail
      go_loopw [7, 8, 9, 10] (fun s7 s8 s9 s10 wr => ∃ (nodes : List Int) (inner : List Tr) (v : List UInt8) (A1 : Option Addr) (c1 : Nat) (A2 : Option Addr) (c2 : Nat) (cells : List Value) (f' : Nat), LoopI w g S n nodes inner v A1 c1 A2 c2 cells wr ∧ Hid (restP (f + 1) n u = loopP f' n nodes inner v) ∧ v.length < f' ∧ f' ≤ f) (fun _ _ _ _ wr => S.size - atOf wr g)
      case atStart => exact ⟨[], [], _, _, _, _, _, _, f, L0, HE, by omega, by omega⟩
      case round =>
        clear L0 HE
        obtain ⟨nodes, inner, v, A1, c1, A2, c2, cells, f', L, HE, hvf, hff⟩ := hrel
        obtain ⟨f', rfl⟩ : ∃ k, f' = k + 1 := ⟨f' - 1, by omega⟩
        have S4 := L.2.2.1
        have HSL := Lib.hid S4.left
        have hlen := L.2.2.2.2.2.2.2.2.2.2
        cases hnum : numP v with
        | none =>
          have hE := HE.out
          rw [loop_none hnum] at hE
          have HE2 := Lib.hid hE
          have HN := Lib.hid hnum
          have R6 := L.2.2.2.1.cell
          have Z6 := L.2.2.2.1.free
          have R7 := L.2.2.2.2.1.cell
          have hsp : w.heap.size + 1 < wr.heap.size := blk_lt L.2.2.2.2.1
          clear hE hnum
          go_wp2_with fail
          refine (number_no g S v _ S4 HN.out).mono ?_
          rintro e w4 ⟨rfl, rfl⟩
          go_wp2_with fail
          refine bodyPost_ret (v := .tuple #[.agg #[.int .i64 (n : Int), .slice A1 nodes.length c1, .slice A2 inner.length c2], .bool false]) (by simp [results, Tryz.results138, go_sem, R6]) rfl ?_
          rw [HE2.out]
          exact L.no hg
        | some k =>
          obtain ⟨hv1, hk⟩ := num_lt hnum
          have HN := Lib.hid hnum
          by_cases ho : tok (nxt v) = [111, 102]
          · obtain ⟨p, hp⟩ : ∃ p, p = restP f' k (nxt v) := ⟨_, rfl⟩
            obtain ⟨o, v5⟩ := p
            have hv5 : v5.length ≤ (nxt v).length := by
              have := restP_len f' k (nxt v)
              rw [← hp] at this
              exact this
            have HP := Lib.hid hp.symm
            have HO := Lib.hid ho
            clear hp hnum ho
            go_wp2_with fail
            refine (number_yes g S v k _ S4 hS HN.out).mono ?_
            rintro e w4 ⟨rfl, S4', F4⟩
            have L4 := L.move hg S4' F4 (by omega)
            obtain ⟨q, T, B4, q1, q2, hT, q3, q4⟩ := S4'.parts
            have RB := B4.cell
            have he : (T.toList == [111, 102]) = true := by rw [ByteArray.toList_eq, hT, HO.out]; rfl
            clear hT q2
            go_wp2_with fail
            clear RB he
            refine (IH.out f' (by omega) k g S (nxt v) _ (by omega) hk S4' hS).mono ?_
            rintro e w5 ⟨th, a1, n1, e1, a2, n2, e2, b, rfl, hb, S5, F5, hT⟩
            rw [HP.out] at hb S5 hT
            simp only at hb S5 hT
            have L5 := L4.move hg S5 F5 hv5
            cases o with
            | none =>
              obtain rfl : b = false := hb
              have hE := HE.out
              rw [loop_bad HN.out HO.out HP.out] at hE
              have HE2 := Lib.hid hE
              have F6 := (Fr.refl none w5).alloc (.cells #[.int .i64 th, .slice a1 n1 e1, .slice a2 n2 e2] 31)
              have L6 := L5.move hg (S5.fr F6 (by simp)) F6.mono (Nat.le_refl _)
              have R6 := L6.2.2.2.1.cell
              have Z6 := L6.2.2.2.1.free
              have R7 := L6.2.2.2.2.1.cell
              have hsp := blk_lt L5.2.2.2.2.1
              clear hE hT
              go_wp2_with fail
              refine bodyPost_ret (v := .tuple #[.agg #[.int .i64 (n : Int), .slice A1 nodes.length c1, .slice A2 inner.length c2], .bool false]) (by simp [results, Tryz.results138, go_sem, R6]) rfl ?_
              rw [HE2.out]
              exact L6.no hg
            | some t =>
              obtain rfl : b = true := hb
              have hE := HE.out
              rw [loop_inner HN.out HO.out HP.out] at hE
              have HE := Lib.hid hE
              have hT5 := hT t rfl
              have F6 := (Fr.refl none w5).alloc (.cells #[.int .i64 th, .slice a1 n1 e1, .slice a2 n2 e2] 31)
              have L6 := L5.move hg (S5.fr F6 (by simp)) F6.mono (Nat.le_refl _)
              have hT6 := TrD.keep (dn_fr F6 (by simp)) _ _ hT5
              have R6 := L6.2.2.2.1.cell
              have R7 := L6.2.2.2.2.1.cell
              have Z7 := L6.2.2.2.2.1.free
              have hsp := blk_lt L5.2.2.2.2.1
              have own6 := L6.2.2.2.2.2.2.1
              have ow1 := L4.2.2.2.2.2.1
              have ow2 := L4.2.2.2.2.2.2.1
              have hB4 := L4.2.1
              have h61 := L6.2.1
              simp only [World.size_alloc] at h61
              clear hE hT hT5
              go_wp2_with (at_builtin; refine app_lit eiTrust rfl _ _ rfl (w.heap.size + 2) A2 inner.length c2 _ rfl own6 1 [.int .i64 th, .slice a1 n1 e1, .slice a2 n2 e2] 31 _ rfl (by simp) rfl (by simp [Value.oneCell']) (by omega) (by unfold maxLen; omega) (by simp; omega) ?_; intro A5 c5 w6 own7 F7 bl7; have K7 := L6.2.2.2.2.1.fr F7 (own_ne own6 (by omega)); have R8 := K7.cell; have Z8 := K7.free; have hsp6 := blk_lt K7; clear R6 R7 Z7)
              have L7 := L6.inner_ hg hB4 hT6 (fun b hb => (ow1.lt b hb).2) (fun b hb => (ow2.lt b hb).2) own7 F7 bl7 (by omega)
              generalize hW : World.setCell w6 _ _ = w7 at L7 ⊢
              obtain ⟨inner2, hin⟩ : ∃ l, l = inner ++ [t] := ⟨_, rfl⟩
              rw [← hin] at L7 HE
              have hvf5 : v5.length < f' := by omega
              clear hW hin L6 L5 L4 own6 own7 ow1 ow2 F7 bl7 R8 Z8 K7 hT6
              go_wp2_with fail
              have S6 := L7.2.2.1
              have K6 := L7.2.2.2.1
              have K7 := L7.2.2.2.2.1
              have R6 := K6.cell
              have Z6 := K6.free
              have R7 := K7.cell
              have Z7 := K7.free
              have hsp : w.heap.size + 1 < w7.heap.size := blk_lt K7
              by_cases h41 : tok v5 = [41]
              · have hE := HE.out
                rw [tail_yes h41] at hE
                have HE2 := Lib.hid hE
                have H41 := Lib.hid h41
                clear hE h41 HE
                go_wp2_with fail
                refine (take_yes g S ⟨#[41]⟩ v5 _ S6 hS H41.out).mono ?_
                rintro e w8 ⟨rfl, S8, F8⟩
                have L8 := L7.move hg S8 F8 (nxt_le _)
                have R8 := L8.2.2.2.1.cell
                have Z8 := L8.2.2.2.1.free
                have R9 := L8.2.2.2.2.1.cell
                have hsp8 : w.heap.size + 1 < w8.heap.size := blk_lt L8.2.2.2.2.1
                clear R6 Z6 R7 Z7
                go_wp2_with fail
                refine bodyPost_ret (v := .tuple #[.agg #[.int .i64 (n : Int), .slice A1 nodes.length c1, .slice A5 inner2.length c5], .bool true]) (by simp [results, Tryz.results138, go_sem, R8]) rfl ?_
                rw [HE2.out]
                exact L8.yes hg hn
              · by_cases h44 : tok v5 = [44]
                · have hE := HE.out
                  rw [tail_more h41 h44] at hE
                  have HE2 := Lib.hid hE
                  have H44 := Lib.hid h44
                  have H41 := Lib.hid h41
                  have hvl2 : (nxt v5).length < v5.length := nxt_lt (by rw [h44]; simp)
                  clear hE h41 h44 HE
                  go_wp2_with fail
                  refine (take_no g S ⟨#[41]⟩ v5 _ S6 H41.out).mono ?_
                  rintro e w8 ⟨rfl, rfl⟩
                  go_wp2_with fail
                  refine (take_yes g S ⟨#[44]⟩ v5 _ S6 hS H44.out).mono ?_
                  rintro e w8 ⟨rfl, S8, F8⟩
                  have L8 := L7.move hg S8 F8 (nxt_le _)
                  clear R6 Z6 R7 Z7
                  go_wp2_with fail
                  go_roundw
                  case rel => exact ⟨nodes, inner2, _, _, _, _, _, _, _, L8, HE2, by omega⟩
                  case measure => rw [S8.left, HSL.out]; omega
                · have hE := HE.out
                  rw [tail_no h41 h44] at hE
                  have HE2 := Lib.hid hE
                  have H44 := Lib.hid h44
                  have H41 := Lib.hid h41
                  clear hE h41 h44 HE
                  go_wp2_with fail
                  refine (take_no g S ⟨#[41]⟩ v5 _ S6 H41.out).mono ?_
                  rintro e w8 ⟨rfl, rfl⟩
                  go_wp2_with fail
                  refine (take_no g S ⟨#[44]⟩ v5 _ S6 H44.out).mono ?_
                  rintro e w8 ⟨rfl, rfl⟩
                  go_wp2_with fail
                  refine bodyPost_ret (v := .tuple #[.agg #[.int .i64 (n : Int), .slice A1 nodes.length c1, .slice A5 inner2.length c5], .bool false]) (by simp [results, Tryz.results138, go_sem, R6]) rfl ?_
                  rw [HE2.out]
                  exact L7.no hg
          · have hE := HE.out
            rw [loop_node hnum ho] at hE
            have HE := Lib.hid hE
            have HO := Lib.hid ho
            clear hE hnum ho
            go_wp2_with fail
            refine (number_yes g S v k _ S4 hS HN.out).mono ?_
            rintro e w4 ⟨rfl, S4', F4⟩
            have L4 := L.move hg S4' F4 (by omega)
            obtain ⟨q, T, B4, q1, q2, hT, q3, q4⟩ := S4'.parts
            have RB := B4.cell
            have he : (T.toList == [111, 102]) = false := by rw [ByteArray.toList_eq, hT, beq_eq_false_iff_ne]; exact HO.out
            have R7 := L4.2.2.2.2.1.cell
            have Z7 := L4.2.2.2.2.1.free
            have hsp := blk_lt L4.2.2.2.2.1
            have own4 := L4.2.2.2.2.2.1
            have h41 := L4.2.1
            clear hT q2
            go_wp2_with (at_builtin; refine app_lit eiInt rfl _ _ rfl (w.heap.size + 2) A1 nodes.length c1 _ rfl own4 1 [.int .i64 (k : Int)] 3 _ rfl (by simp) rfl (by simp [Value.oneCell']) (by omega) (by unfold maxLen; omega) (by omega) ?_; intro A5 c5 w6 own7 F7 bl7; have K7 := L4.2.2.2.2.1.fr F7 (own_ne own4 (by omega)); have R8 := K7.cell; have Z8 := K7.free; have hsp6 := blk_lt K7; clear R7 Z7 RB)
            have L7 := L4.node hg hk own7 F7 bl7 (by omega)
            generalize hW : World.setCell w6 _ _ = w7 at L7 ⊢
            obtain ⟨nodes2, hin⟩ : ∃ l, l = nodes ++ [(k : Int)] := ⟨_, rfl⟩
            rw [← hin] at L7 HE
            obtain ⟨v5, hv5⟩ : ∃ l, l = nxt v := ⟨_, rfl⟩
            rw [← hv5] at L7 HE hv1
            have hvf5 : v5.length < f' := by omega
            clear hW hin L4 own4 own7 F7 bl7 R8 Z8 K7 B4 he S4' hv5
            go_wp2_with fail
            have S6 := L7.2.2.1
            have K6 := L7.2.2.2.1
            have K7 := L7.2.2.2.2.1
            have R6 := K6.cell
            have Z6 := K6.free
            have R7 := K7.cell
            have Z7 := K7.free
            have hsp : w.heap.size + 1 < w7.heap.size := blk_lt K7
            by_cases h41 : tok v5 = [41]
            · have hE := HE.out
              rw [tail_yes h41] at hE
              have HE2 := Lib.hid hE
              have H41 := Lib.hid h41
              clear hE h41 HE
              go_wp2_with fail
              refine (take_yes g S ⟨#[41]⟩ v5 _ S6 hS H41.out).mono ?_
              rintro e w8 ⟨rfl, S8, F8⟩
              have L8 := L7.move hg S8 F8 (nxt_le _)
              have R8 := L8.2.2.2.1.cell
              have Z8 := L8.2.2.2.1.free
              have R9 := L8.2.2.2.2.1.cell
              have hsp8 : w.heap.size + 1 < w8.heap.size := blk_lt L8.2.2.2.2.1
              clear R6 Z6 R7 Z7
              go_wp2_with fail
              refine bodyPost_ret (v := .tuple #[.agg #[.int .i64 (n : Int), .slice A5 nodes2.length c5, .slice A2 inner.length c2], .bool true]) (by simp [results, Tryz.results138, go_sem, R8]) rfl ?_
              rw [HE2.out]
              exact L8.yes hg hn
            · by_cases h44 : tok v5 = [44]
              · have hE := HE.out
                rw [tail_more h41 h44] at hE
                have HE2 := Lib.hid hE
                have H44 := Lib.hid h44
                have H41 := Lib.hid h41
                have hvl2 : (nxt v5).length < v5.length := nxt_lt (by rw [h44]; simp)
                clear hE h41 h44 HE
                go_wp2_with fail
                refine (take_no g S ⟨#[41]⟩ v5 _ S6 H41.out).mono ?_
                rintro e w8 ⟨rfl, rfl⟩
                go_wp2_with fail
                refine (take_yes g S ⟨#[44]⟩ v5 _ S6 hS H44.out).mono ?_
                rintro e w8 ⟨rfl, S8, F8⟩
                have L8 := L7.move hg S8 F8 (nxt_le _)
                clear R6 Z6 R7 Z7
                go_wp2_with fail
                go_roundw
                case rel => exact ⟨nodes2, inner, _, _, _, _, _, _, _, L8, HE2, by omega⟩
                case measure => rw [S8.left, HSL.out]; omega
              · have hE := HE.out
                rw [tail_no h41 h44] at hE
                have HE2 := Lib.hid hE
                have H44 := Lib.hid h44
                have H41 := Lib.hid h41
                clear hE h41 h44 HE
                go_wp2_with fail
                refine (take_no g S ⟨#[41]⟩ v5 _ S6 H41.out).mono ?_
                rintro e w8 ⟨rfl, rfl⟩
                go_wp2_with fail
                refine (take_no g S ⟨#[44]⟩ v5 _ S6 H44.out).mono ?_
                rintro e w8 ⟨rfl, rfl⟩
                go_wp2_with fail
                refine bodyPost_ret (v := .tuple #[.agg #[.int .i64 (n : Int), .slice A5 nodes2.length c5, .slice A2 inner.length c2], .bool false]) (by simp [results, Tryz.results138, go_sem, R6]) rfl ?_
                rw [HE2.out]
                exact L7.no hg
    · have hE : restP (f + 1) n u = (none, nxt u) := by simp only [restP, if_pos hof, if_neg hpar]
      have HE := Lib.hid hE
      have HOF := Lib.hid hof
      have HPAR := Lib.hid hpar
      have hl1 : (nxt u).length < u.length := nxt_lt (by rw [hof]; simp)
      clear hE hof hpar
      go_enter Tryz.func138, Tryz.ntmps138
      go_wp2_with fail
      generalize hW : (w.alloc _).alloc _ = w1
      have hz : w1.heap.size = w.heap.size + 2 := by rw [← hW]; simp
      have F1 : Fr none w w1 := hW ▸ ((Fr.refl _ w).alloc _).alloc _
      have b6 : TB w1 w.heap.size (.int .i64 0) (.slice none 0 0) (.slice none 0 0) := by
        rw [← hW]; exact (Below.heap_alloc _ _ _ (by simp)).trans (blk_new _ _)
      have b7 : TB w1 (w.heap.size + 1) (.int .i64 (n : Int)) (.slice none 0 0) (.slice none 0 0) := by
        rw [← hW]; exact blk_new_at (by simp) _
      have S1 := h.fr F1 (by simp)
      clear hW h
      refine (take_yes g S ⟨#[111, 102]⟩ u _ S1 hS HOF.out).mono ?_
      rintro e w2 ⟨rfl, S2, F2⟩
      go_wp2_with fail
      refine (take_no g S ⟨#[40]⟩ (nxt u) _ S2 HPAR.out).mono ?_
      rintro e w3 ⟨rfl, rfl⟩
      have hz3 := F2.size
      have L0 : LoopI w g S n [] [] (nxt u) none 0 none 0 [] w2 := ⟨(F1.mono (r := some g)).same F2, by omega, S2, b6.fr F2 (by simp; omega), b7.fr F2 (by simp; omega), World.ownsRow_nil _ _ _ _, World.ownsRow_nil _ _ _ _, by simp [TrsD], fun b hb => by simp [Value.ownBlock] at hb, by simp, by simp; omega⟩
      have R6 := L0.2.2.2.1.cell
      have Z6 := L0.2.2.2.1.free
      have R7 := L0.2.2.2.2.1.cell
      have hsp : w.heap.size + 1 < w2.heap.size := blk_lt L0.2.2.2.2.1
      clear b6 b7
      go_wp2_with fail
      refine bodyPost_ret (v := .tuple #[.agg #[.int .i64 (n : Int), .slice none 0 0, .slice none 0 0], .bool false]) (by simp [results, Tryz.results138, go_sem, R6]) rfl ?_
      rw [HE.out]
      exact L0.no hg
  · have hE : restP (f + 1) n u = (none, u) := by simp only [restP, if_neg hof]
    have HE := Lib.hid hE
    have HOF := Lib.hid hof
    clear hE hof
    go_enter Tryz.func138, Tryz.ntmps138
    go_wp2_with fail
    generalize hW : (w.alloc _).alloc _ = w1
    have hz : w1.heap.size = w.heap.size + 2 := by rw [← hW]; simp
    have F1 : Fr none w w1 := hW ▸ ((Fr.refl _ w).alloc _).alloc _
    have b6 : TB w1 w.heap.size (.int .i64 0) (.slice none 0 0) (.slice none 0 0) := by
      rw [← hW]; exact (Below.heap_alloc _ _ _ (by simp)).trans (blk_new _ _)
    have b7 : TB w1 (w.heap.size + 1) (.int .i64 (n : Int)) (.slice none 0 0) (.slice none 0 0) := by
      rw [← hW]; exact blk_new_at (by simp) _
    have S1 := h.fr F1 (by simp)
    clear hW h
    refine (take_no g S ⟨#[111, 102]⟩ u _ S1 HOF.out).mono ?_
    rintro e w3 ⟨rfl, rfl⟩
    have L0 : LoopI w g S n [] [] u none 0 none 0 [] w1 := ⟨F1.mono, by omega, S1, b6, b7, World.ownsRow_nil _ _ _ _, World.ownsRow_nil _ _ _ _, by simp [TrsD], fun b hb => by simp [Value.ownBlock] at hb, by simp, by simp; omega⟩
    have R6 := L0.2.2.2.1.cell
    have Z6 := L0.2.2.2.1.free
    have R7 := L0.2.2.2.2.1.cell
    have hsp : w.heap.size + 1 < w1.heap.size := blk_lt L0.2.2.2.2.1
    clear b6 b7
    go_wp2_with fail
    refine bodyPost_ret (v := .tuple #[.agg #[.int .i64 (n : Int), .slice none 0 0, .slice none 0 0], .bool false]) (by simp [results, Tryz.results138, go_sem, R6]) rfl ?_
    rw [HE.out]
    exact L0.no hg
end Go.Proofs.YtoblhcieidljjaaGreatDoor

/- Walks: notation.Parse. -/
namespace Go.Proofs.YtoblhcieidljjaaGreatDoor
open Go.RowKit

set_option maxRecDepth 100000 in
set_option maxHeartbeats 4000000 in
theorem parse_any (S : ByteArray) (w : World) : Calls Tryz.prog 90 #[.string S] w (GotP (parseP S.data.toList) w) := by
  by_cases hlen : 6000 < S.size
  · have hp : parseP S.data.toList = .no 0 3 := by unfold parseP; rw [if_pos (by rw [← size_list]; exact hlen)]
    rw [hp]
    go_enter Tryz.func90, Tryz.ntmps90
    go_wp2_with fail
    refine bodyPost_ret (v := .tuple #[.agg #[.int .i64 0, .slice none 0 0, .slice none 0 0], .int .i64 0, .int .i64 3]) (by simp [results, Tryz.results90, go_sem]) rfl ?_
    exact ⟨_, _, _, _, _, _, _, 0, _, rfl, (Fr.refl _ _).alloc _, by omega, rfl, rfl, rfl⟩
  · obtain ⟨p, hp⟩ : ∃ p, p = wholeP S.data.toList := ⟨_, rfl⟩
    obtain ⟨o, v⟩ := p
    have hS : S.size ≤ 6001 := by omega
    have HP := Lib.hid hp.symm
    have hlen2 : S.size ≤ 6000 := by omega
    clear hp hlen
    go_enter Tryz.func90, Tryz.ntmps90
    go_wp2_with fail
    generalize hW : (w.alloc _).alloc _ = w1
    have hz : w1.heap.size = w.heap.size + 2 := by rw [← hW]; simp
    have F1 : Fr none w w1 := hW ▸ ((Fr.refl _ w).alloc _).alloc _
    have b2 : TB w1 w.heap.size (.int .i64 0) (.slice none 0 0) (.slice none 0 0) := by
      rw [← hW]; exact (Below.heap_alloc _ _ _ (by simp)).trans (blk_new _ _)
    have b5 : RdB w1 (w.heap.size + 1) S ⟨#[]⟩ 0 := by
      rw [← hW]; exact blk_new_at (by simp) _
    clear hW
    refine (next_any (w.heap.size + 1) 0 0 S ⟨#[]⟩ _ b5 rfl (by omega) hS).mono ?_
    rintro e w2 ⟨k0, T0, rfl, q1, q2, q3, q4, B2, F2⟩
    have S2 : RdS w2 (w.heap.size + 1) S (skp S.data.toList) := ⟨k0, T0, B2, q1, q2, q3⟩
    have b2' := b2.fr F2 (by simp)
    have hz2 := F2.size
    clear b5 b2 B2 q1 q2 q3 q4
    have F3 := (Fr.refl none w2).alloc (.cells #[.int .i64 0, .slice none 0 0, .slice none 0 0] 31)
    have b6 : TB (w2.alloc (.cells #[.int .i64 0, .slice none 0 0, .slice none 0 0] 31)) w2.heap.size (.int .i64 0) (.slice none 0 0) (.slice none 0 0) := blk_new _ _
    have S3 := S2.fr F3 (by simp)
    have b3 := b2'.fr F3 (by simp)
    have FA : Fr none w (w2.alloc (.cells #[.int .i64 0, .slice none 0 0, .slice none 0 0] 31)) := (F1.own F2 (by simp)).pure F3
    have F1n : Fr none w w1 := F1
    clear b2' S2
    go_wp2_with fail
    generalize hW : w2.alloc _ = w3 at *
    have hz3 : w3.heap.size = w2.heap.size + 1 := by rw [← hW]; simp
    clear hW F3
    cases hnum : numP (skp S.data.toList) with
    | none =>
      have hE := HP.out
      simp only [wholeP, hnum] at hE
      have hW0 : wholeP S.data.toList = (none, skp S.data.toList) := by simp only [wholeP, hnum]
      have HW0 := Lib.hid (parse_none hlen2 hW0)
      have HN := Lib.hid hnum
      clear hnum HP hE hW0
      refine (number_no (w.heap.size + 1) S _ _ S3 HN.out).mono ?_
      rintro e w4 ⟨rfl, rfl⟩
      obtain ⟨k, T, B, q1, q2, q3, q4, q5⟩ := S3.parts
      have HQ := Lib.hid q1
      have RB := B.cell
      have R2 := b3.cell
      have Z2 := b3.free
      have hk : k ≤ S.size := by omega
      clear q1 q2 q3 q4 q5
      go_wp2_with fail
      have hne : ¬ w.heap.size = w.heap.size + 1 := by omega
      go_region
      all_goals
        go_wp2_with fail
        refine bodyPost_ret (v := .tuple #[.agg #[.int .i64 0, .slice none 0 0, .slice none 0 0], .int .i64 (k : Int), .int .i64 2]) (by simp [results, Tryz.results90, go_sem, R2]) rfl ?_
        have hq := HQ.out
        refine ⟨_, _, _, _, _, _, _, k, _, rfl, ?_, by omega, ?_⟩
        · exact (FA.own (fr_fill3 w3 w.heap.size _ _ _) (by simp)).drew
        · rw [HW0.out]
          exact ⟨by omega, rfl, rfl⟩
    | some n =>
      obtain ⟨hv1, hk9⟩ := num_lt hnum
      have hE := HP.out
      simp only [wholeP, hnum] at hE
      have HN := Lib.hid hnum
      have HE := Lib.hid hE
      have hsl := skp_len S.data.toList
      rw [← size_list] at hsl
      have hsn := nxt_le (skp S.data.toList)
      clear hnum hE
      refine (number_yes (w.heap.size + 1) S _ n _ S3 hS HN.out).mono ?_
      rintro e w4 ⟨rfl, S4, F4⟩
      have hz4 := F4.size
      go_wp2_with fail
      refine (rest_any (S.data.toList.length + 1) n (w.heap.size + 1) S _ _ (by rw [← size_list]; omega) hk9 S4 hS).mono ?_
      rintro e w5 ⟨th, a1, n1, e1, a2, n2, e2, b, rfl, hb, S5, F5, hT⟩
      have hrs := restP_size (S.data.toList.length + 1) n (nxt (skp S.data.toList))
      rw [HE.out] at hb S5 hT hrs
      simp only at hb S5 hT
      have hz5 := F5.size
      have c6 := (b6.fr F4 (by simp; omega)).fr F5 (by simp; omega)
      have c2 := (b3.fr F4 (by simp)).fr F5 (by simp)
      have R6 := c6.cell
      have Z6 := c6.free
      have hl6 := blk_lt c6
      have FB : Fr none w w5 := FA.own (F4.same F5) (by simp)
      clear b6 b3 S4 S3
      cases o with
      | none =>
        obtain rfl : b = false := hb
        go_upto_region 9 with (fail)
        have G := fr_fill3 w5 w2.heap.size (.int .i64 th) (.slice a1 n1 e1) (.slice a2 n2 e2)
        generalize hWG : World.setCell (World.setCell (World.setCell w5 _ _) _ _) _ _ = w6 at G ⊢
        have SG := S5.fr G (by simp; omega)
        have c2G := c2.fr G (by simp; omega)
        have FG : Fr none w w6 := FB.own G (by simp; omega)
        obtain ⟨k, T, B, q1, q2, q3, q4, q5⟩ := SG.parts
        have HQ := Lib.hid q1
        have RB := B.cell
        have R2 := c2G.cell
        have Z2 := c2G.free
        have hk : k ≤ S.size := by omega
        have hne : ¬ w.heap.size = w.heap.size + 1 := by omega
        have HW0 := Lib.hid (parse_none hlen2 HP.out)
        clear q1 q2 q3 q4 q5 hT R6 Z6 c2 S5 F4 F5 hWG hrs HP
        go_wp2_with fail
        go_region
        all_goals
          go_wp2_with fail
          refine bodyPost_ret (v := .tuple #[.agg #[.int .i64 0, .slice none 0 0, .slice none 0 0], .int .i64 (k : Int), .int .i64 2]) (by simp [results, Tryz.results90, go_sem, R2]) rfl ?_
          have hq := HQ.out
          refine ⟨_, _, _, _, _, _, _, k, _, rfl, ?_, by omega, ?_⟩
          · exact (FG.own (fr_fill3 w6 w.heap.size _ _ _) (by simp)).drew
          · rw [HW0.out]
            exact ⟨by omega, rfl, rfl⟩
      | some t =>
        obtain rfl : b = true := hb
        have hts := hrs t v rfl
        go_upto_region 9 with (fail)
        have G := fr_fill3 w5 w2.heap.size (.int .i64 th) (.slice a1 n1 e1) (.slice a2 n2 e2)
        have d6 := (((show TB w5 w2.heap.size _ _ _ from c6).set0 (.int .i64 th)).set1 (.slice a1 n1 e1)).set2 (.slice a2 n2 e2)
        generalize hWG : World.setCell (World.setCell (World.setCell w5 _ _) _ _) _ _ = w6 at G d6 ⊢
        have SG := S5.fr G (by simp; omega)
        have c2G := c2.fr G (by simp; omega)
        have FG : Fr none w w6 := FB.own G (by simp; omega)
        have hTG := TrD.keep (dn_fr (B := w4.heap.size) G (by simp; omega)) _ _ (hT t rfl)
        obtain ⟨k, T, B, q1, q2, q3, q4, q5⟩ := SG.parts
        have HQ := Lib.hid q1
        have RB := B.cell
        have R2 := c2G.cell
        have Z2 := c2G.free
        have hk : k ≤ S.size := by omega
        have hne : ¬ w.heap.size = w.heap.size + 1 := by omega
        clear q2 q3 q4 q5 hT R6 Z6 c2 S5 F4 F5 hWG hrs c6
        cases v with
        | cons c0 r0 =>
          have HW0 := Lib.hid (parse_more hlen2 HP.out (by simp))
          have hk2 : k < S.size := by simp at q1; omega
          clear q1 HP
          go_wp2_with fail
          go_region
          all_goals
            go_wp2_with fail
            refine bodyPost_ret (v := .tuple #[.agg #[.int .i64 0, .slice none 0 0, .slice none 0 0], .int .i64 (k : Int), .int .i64 2]) (by simp [results, Tryz.results90, go_sem, R2]) rfl ?_
            have hq := HQ.out
            refine ⟨_, _, _, _, _, _, _, k, _, rfl, ?_, by omega, ?_⟩
            · exact (FG.own (fr_fill3 w6 w.heap.size _ _ _) (by simp)).drew
            · rw [HW0.out]
              exact ⟨by omega, rfl, rfl⟩
        | nil =>
          have hk2 : S.size ≤ k := by simp at q1; omega
          have R7 := d6.cell
          have hT0 : TrR w6 none (.agg #[.int .i64 th, .slice a1 n1 e1, .slice a2 n2 e2]) t := TrD.keep (dn_dm (by simp)) _ _ hTG
          have hl6 : w.heap.size < w6.heap.size := by have := blk_lt c2G; exact this
          clear q1
          by_cases hv : validE t = 0
          · have HW0 := Lib.hid (parse_good hlen2 HP.out hv)
            have hv0 : (validE t != 0) = false := by rw [bne_eq_false_iff_eq]; exact hv
            have HV := Lib.hid hv
            clear HP hv
            go_wp2_with fail
            refine (validT_any t _ _ none (by omega) hT0).mono ?_
            rintro e w7 ⟨rfl, F7⟩
            have R8 := (d6.fr F7 (by simp)).cell
            have R9 := (c2G.fr F7 (by simp)).cell
            have Z9 := (c2G.fr F7 (by simp)).free
            have hl7 := blk_lt (c2G.fr F7 (by simp))
            clear R7 R2 Z2 RB
            go_wp2_with fail
            refine bodyPost_ret (v := .tuple #[.agg #[.int .i64 th, .slice a1 n1 e1, .slice a2 n2 e2], .int .i64 0, .int .i64 0]) (by simp [results, Tryz.results90, go_sem, R9]) rfl ?_
            have G2 := fr_fill3 w7 w.heap.size (.int .i64 th) (.slice a1 n1 e1) (.slice a2 n2 e2)
            refine ⟨_, _, _, _, _, _, _, 0, _, rfl, (FG.pure F7).own G2 (by simp), by omega, ?_⟩
            rw [HW0.out]
            exact ⟨rfl, rfl, TrD.keep (dn_mono (by omega)) _ _ (TrD.keep (dn_fr G2 (by simp; omega)) _ _ (TrD.keep (dn_fr F7 (by simp)) _ _ hTG)), HV.out⟩
          · have HW0 := Lib.hid (parse_bad hlen2 HP.out hv)
            have hv0 : (validE t != 0) = true := by rw [bne_iff_ne]; exact hv
            clear HP hv
            go_wp2_with fail
            refine (validT_any t _ _ none (by omega) hT0).mono ?_
            rintro e w7 ⟨rfl, F7⟩
            have R9 := (c2G.fr F7 (by simp)).cell
            have Z9 := (c2G.fr F7 (by simp)).free
            have hl7 := blk_lt (c2G.fr F7 (by simp))
            clear R7 R2 Z2 RB
            go_wp2_with fail
            refine bodyPost_ret (v := .tuple #[.agg #[.int .i64 0, .slice none 0 0, .slice none 0 0], .int .i64 0, .int .i64 (validE t)]) (by simp [results, Tryz.results90, go_sem, R9]) rfl ?_
            have G2 := fr_fill3 w7 w.heap.size (.int .i64 0) (.slice none 0 0) (.slice none 0 0)
            refine ⟨_, _, _, _, _, _, _, 0, _, rfl, (FG.pure F7).own G2 (by simp), by omega, ?_⟩
            rw [HW0.out]
            exact ⟨rfl, rfl, rfl⟩
end Go.Proofs.YtoblhcieidljjaaGreatDoor

/- Walks: Parse in two forms, Canonical; the sanity check of layer 3's laws. -/
namespace Go.Proofs.YtoblhcieidljjaaGreatDoor
open Go.RowKit

def ParOk (t : Tr) (w : World) (e : Ending) (w' : World) : Prop :=
  ∃ (th : Int) (A1 : Option Addr) (n1 c1 : Nat) (A2 : Option Addr) (n2 c2 : Nat), e = .returned (.tuple #[.agg #[.int .i64 th, .slice A1 n1 c1, .slice A2 n2 c2], .int .i64 0, .int .i64 0]) ∧ TrD w' (Dn w.heap.size w') (.agg #[.int .i64 th, .slice A1 n1 c1, .slice A2 n2 c2]) t ∧ Fr none w w'
theorem parse_okW (S : ByteArray) (t : Tr) (w : World) (hp : parseP S.data.toList = .ok t) : Calls Tryz.prog 90 #[.string S] w (ParOk t w) :=
  (parse_any S w).mono fun e w' ⟨th, A1, n1, c1, A2, n2, c2, k, er, he, F, _, h⟩ => by
    rw [hp] at h
    obtain ⟨rfl, rfl, h1, _⟩ := h
    exact ⟨th, A1, n1, c1, A2, n2, c2, he, h1, F⟩
theorem parse_noW (S : ByteArray) (a : Nat) (x : Int) (w : World) (hp : parseP S.data.toList = .no a x) :
    Calls Tryz.prog 90 #[.string S] w fun e w' => e = .returned (.tuple #[.agg #[.int .i64 0, .slice none 0 0, .slice none 0 0], .int .i64 (a : Int), .int .i64 x]) ∧ Fr none w w' :=
  (parse_any S w).mono fun e w' ⟨th, A1, n1, c1, A2, n2, c2, k, er, he, F, _, h⟩ => by
    rw [hp] at h
    obtain ⟨rfl, rfl, h1⟩ := h
    rw [h1] at he
    exact ⟨he, F⟩
theorem ok_valid {s : List UInt8} {t : Tr} (h : parseP s = .ok t) : validE t = 0 := by
  unfold parseP at h
  split at h
  · cases h
  · split at h
    · cases h
    · split at h
      · cases h
      · split at h
        · cases h
        · rename_i h1
          injection h with h
          subst h
          simpa using h1

/-- What Canonical leaves. -/
def CanE (l : List UInt8) (w : World) (e : Ending) (w' : World) : Prop := ∃ X : ByteArray, e = .returned (.tuple #[.string X, .int .i64 0]) ∧ X = bs l ∧ X.size ≤ 34359738368 ∧ Fr none w w'
theorem aw1 : parseP [50, 111, 102, 40, 32, 49, 32, 111, 102, 32, 40, 50, 44, 51, 41, 44, 48, 32, 41] = .ok (.mk 2 [0] [.mk 1 [2, 3] []]) := by kernel_rfl
theorem aw2 : parseP [50, 32, 111, 102, 32, 40, 48, 44, 32, 41] = .no 9 2 := by kernel_rfl
theorem aw3 : parseP [50, 32, 111, 102, 32, 40, 48] = .no 7 2 := by kernel_rfl
theorem aw4 : parseP [48, 50, 32, 111, 102, 32, 40, 48, 41] = .no 0 2 := by kernel_rfl
theorem aw5 : txT (.mk 2 [0] [.mk 1 [2, 3] []]) = [50, 32, 111, 102, 32, 40, 48, 44, 32, 49, 32, 111, 102, 32, 40, 50, 44, 32, 51, 41, 41] := by
  have i : ∀ n : Nat, n < 10 → Lib.itoa (n : Int) = [UInt8.ofNat (48 + n)] := fun n hn => by
    rw [Lib.itoa_nonneg, Lib.decDigits_one hn]
  have j0 : Lib.itoa 0 = [48] := i 0 (by omega)
  have j1 : Lib.itoa 1 = [49] := i 1 (by omega)
  have j2 : Lib.itoa 2 = [50] := i 2 (by omega)
  have j3 : Lib.itoa 3 = [51] := i 3 (by omega)
  simp only [txT, ndW, List.map_cons, List.map_nil, txL, List.append_nil]
  rw [j0, j1, j2, j3]
  rfl
end Go.Proofs.YtoblhcieidljjaaGreatDoor

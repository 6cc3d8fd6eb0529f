/- Walk: declaration.Proves. -/
import Derived.Test.YtidnnjgiogklaaaDoorProg
import Derived.Test.YtidnnjgiogklaaaDoorDeclO
import Derived.Test.YtidnnjgiogklaaaDoorDeclC
namespace Go.Proofs.YtidnnjgiogklaaaDoor
open Go.RowKit

/-- What Proves returns. -/
def provE (ks : List Nat) (a b : De) : Int := if chkE ks a ≠ 0 then chkE ks a else if chkE ks b ≠ 0 then chkE ks b else if a.node ≠ b.node ∨ a.seq ≠ b.seq then 1 else if Op.bytesLess (bytesS a) (bytesS b) = true then 0 else 7
theorem bytes_fixP (d : De) (S : ByteArray) (hS : Hid (S = bs (bytesS d))) (v : Value) (w : World) (r : Option Nat) (hs : d.tr.size ≤ 1073741000) (h : DeD w (Dm w r) v d) (hT : Tab w) :
    Calls Tryd.prog 30 #[v] w fun e w' => e = .returned (.string S) ∧ Fr none w w' :=
  (bytes_any d v w r hs h hT).mono fun e w' ⟨X, he, hX, _, F⟩ => by
    rw [hS.out, ← hX]
    exact ⟨he, F⟩
/-- One block's cells, and the frame. -/
def Ke (w1 : World) (g : Nat) (x : Array Value) (W : World) : Prop := (∀ i, W.cell? ⟨g, i, none⟩ = x[i]?) ∧ Fr none w1 W
theorem Ke.frame {w1 W : World} {g : Nat} {x : Array Value} (h : Ke w1 g x W) : Fr none w1 W := h.2
theorem Ke.fr {w1 W W' : World} {g : Nat} {x : Array Value} (h : Ke w1 g x W) (hg : g < w1.heap.size) (F : Fr none W W') : Ke w1 g x W' := by
  have hz := h.2.size
  exact ⟨fun i => by rw [F.cell (by simp; omega) (by simp)]; exact h.1 i, h.2.pure F⟩
theorem ke_two {w1 W : World} {g : Nat} {x : Array Value} (h : Ke w1 g x W) : (∀ i, W.cell? ⟨g, i, none⟩ = x[i]?) ∧ Ke w1 g x W := ⟨h.1, h⟩

set_option maxRecDepth 100000 in
set_option maxHeartbeats 4000000 in
theorem proves_any (ks : List Nat) (kv : Value) (a b : De) (th th' : Int) (A1 A2 a1 a2 : Option Addr) (n1 c1 n2 c2 m1 e1 m2 e2 : Nat) (w : World) (hks : ∀ y ∈ ks, y < 18446744073709551616) (hkv : SlD w (Dm w none) 1 kv (ks.map u64v))
    (ha : DeD w (Dm w none) (.agg #[.int .i64 a.node, .int .i64 a.seq, .int .i64 th, .slice A1 n1 c1, .slice A2 n2 c2, .int .u64 (a.tag : Int)]) a) (hb : DeD w (Dm w none) (.agg #[.int .i64 b.node, .int .i64 b.seq, .int .i64 th', .slice a1 m1 e1, .slice a2 m2 e2, .int .u64 (b.tag : Int)]) b) (hpa : plainE a = 0) (hpb : plainE b = 0) (hT : Tab w) :
    Calls Tryd.prog 27 #[kv, .agg #[.int .i64 a.node, .int .i64 a.seq, .int .i64 th, .slice A1 n1 c1, .slice A2 n2 c2, .int .u64 (a.tag : Int), .int .i64 b.node, .int .i64 b.seq, .int .i64 th', .slice a1 m1 e1, .slice a2 m2 e2, .int .u64 (b.tag : Int)]] w fun e w' => e = .returned (.int .i64 (provE ks a b)) ∧ Fr none w w' := by
  have HPa := Lib.hid hpa
  have HPb := Lib.hid hpb
  have hsa : a.tr.size ≤ 1073741000 := by have := (plain_parts hpa).2.2.2.2; omega
  have hsb : b.tr.size ≤ 1073741000 := by have := (plain_parts hpb).2.2.2.2; omega
  have HKS := Lib.hid hks
  clear hpa hpb hks
  go_enter Tryd.func27, Tryd.ntmps27
  go_upto_region 1 with (fail)
  generalize hW : w.alloc _ = w1
  have F1 : Fr none w w1 := hW ▸ (Fr.refl none w).alloc _
  have bt : w1.heap[w.heap.size]? = some (.cells #[.int .i64 a.node, .int .i64 a.seq, .int .i64 th, .slice A1 n1 c1, .slice A2 n2 c2, .int .u64 (a.tag : Int), .int .i64 b.node, .int .i64 b.seq, .int .i64 th', .slice a1 m1 e1, .slice a2 m2 e2, .int .u64 (b.tag : Int)] 53 (0, 0)) := by rw [← hW]; exact blk_new _ _
  clear hW
  have hl := blk_lt bt
  have K1 : Ke w1 w.heap.size #[.int .i64 a.node, .int .i64 a.seq, .int .i64 th, .slice A1 n1 c1, .slice A2 n2 c2, .int .u64 (a.tag : Int), .int .i64 b.node, .int .i64 b.seq, .int .i64 th', .slice a1 m1 e1, .slice a2 m2 e2, .int .u64 (b.tag : Int)] w1 := ⟨blk_cell bt, Fr.refl _ _⟩
  have R1 := K1.1
  have T1 := hT.fr F1
  have Ha := ha.keep (fr_dm F1)
  have Hb := hb.keep (fr_dm F1)
  have Hk := hkv.keep (fr_dm F1)
  clear bt hT ha hb hkv
  obtain ⟨x, hx⟩ : ∃ x, x = chkE ks a := ⟨_, rfl⟩
  obtain ⟨y, hy⟩ : ∃ y, y = chkE ks b := ⟨_, rfl⟩
  have HX := Lib.hid hx
  have HY := Lib.hid hy
  clear hx hy
  go_wp2_with fail
  refine (check_any ks _ a _ _ none HKS.out Hk Ha HPa.out T1).mono ?_
  rintro e w2 ⟨rfl, F2⟩
  rw [← HX.out]
  have K2 := K1.fr hl F2
  have R2 := K2.1
  clear R1
  by_cases hx0 : x = 0
  · subst hx0
    go_wp2_with fail
    refine (check_any ks _ b _ _ none HKS.out (Hk.keep (fr_dm F2)) (Hb.keep (fr_dm F2)) HPb.out (T1.fr F2)).mono ?_
    rintro e w3 ⟨rfl, F3⟩
    rw [← HY.out]
    have K3 := K2.fr hl F3
    have R3 := K3.1
    clear R2
    by_cases hy0 : y = 0
    · subst hy0
      have hpv : provE ks a b = if a.node ≠ b.node ∨ a.seq ≠ b.seq then 1 else if Op.bytesLess (bytesS a) (bytesS b) = true then 0 else 7 := by
        unfold provE
        rw [if_neg (by rw [← HX.out]; simp), if_neg (by rw [← HY.out]; simp)]
      have HPV := Lib.hid hpv
      clear hpv
      by_cases hn : a.node = b.node
      · by_cases hs : a.seq = b.seq
        · have hn1 : (a.node != b.node) = false := by rw [bne_eq_false_iff_eq]; exact hn
          have hs1 : (a.seq != b.seq) = false := by rw [bne_eq_false_iff_eq]; exact hs
          have HV : Hid (provE ks a b = if Op.bytesLess (bytesS a) (bytesS b) = true then 0 else 7) := by unfold Hid; rw [HPV.out, if_neg (by simp [hn, hs])]
          obtain ⟨Sa, hSa⟩ : ∃ S, S = bs (bytesS a) := ⟨_, rfl⟩
          obtain ⟨Sb, hSb⟩ : ∃ S, S = bs (bytesS b) := ⟨_, rfl⟩
          obtain ⟨p, hp⟩ : ∃ p, Op.bytesLess Sa.toList Sb.toList = p := ⟨_, rfl⟩
          have HP : Hid (Op.bytesLess (bytesS a) (bytesS b) = p) := by unfold Hid; rw [← hp, hSa, hSb, bs_toList, bs_toList]
          have HSa := Lib.hid hSa
          have HSb := Lib.hid hSb
          clear hSa hSb hn hs HPV
          go_upto_region 9 with (fail)
          have K4 : Ke w1 w.heap.size #[.int .i64 a.node, .int .i64 a.seq, .int .i64 th, .slice A1 n1 c1, .slice A2 n2 c2, .int .u64 (a.tag : Int), .int .i64 b.node, .int .i64 b.seq, .int .i64 th', .slice a1 m1 e1, .slice a2 m2 e2, .int .u64 (b.tag : Int)] w3.drew := ⟨K3.1, K3.2.drew⟩
          go_region_held3 (fun w' => (∀ i, w'.cell? ⟨w.heap.size, i, none⟩ = (#[.int .i64 a.node, .int .i64 a.seq, .int .i64 th, .slice A1 n1 c1, .slice A2 n2 c2, .int .u64 (a.tag : Int), .int .i64 b.node, .int .i64 b.seq, .int .i64 th', .slice a1 m1 e1, .slice a2 m2 e2, .int .u64 (b.tag : Int)] : Array Value)[i]?) ∧ Ke w1 w.heap.size #[.int .i64 a.node, .int .i64 a.seq, .int .i64 th, .slice A1 n1 c1, .slice A2 n2 c2, .int .u64 (a.tag : Int), .int .i64 b.node, .int .i64 b.seq, .int .i64 th', .slice a1 m1 e1, .slice a2 m2 e2, .int .u64 (b.tag : Int)] w') (first | (with_reducible exact ke_two K4) | (with_reducible exact ke_two KK))
            (first | (go_at_call 30; (with_reducible refine (bytes_fixP a Sa HSa (.agg #[.int .i64 a.node, .int .i64 a.seq, .int .i64 th, .slice A1 n1 c1, .slice A2 n2 c2, .int .u64 (a.tag : Int)]) _ none hsa (Ha.keep (fr_dm (‹_ ∧ Ke w1 w.heap.size _ _›).2.frame)) (T1.fr (‹_ ∧ Ke w1 w.heap.size _ _›).2.frame)).mono ?_); rintro e w9 ⟨rfl, F9⟩; have KK := (‹_ ∧ Ke w1 w.heap.size _ _›).2.fr hl F9) | (go_at_call 30; (with_reducible refine (bytes_fixP b Sb HSb (.agg #[.int .i64 b.node, .int .i64 b.seq, .int .i64 th', .slice a1 m1 e1, .slice a2 m2 e2, .int .u64 (b.tag : Int)]) _ none hsb (Hb.keep (fr_dm (‹_ ∧ Ke w1 w.heap.size _ _›).2.frame)) (T1.fr (‹_ ∧ Ke w1 w.heap.size _ _›).2.frame)).mono ?_); rintro e w9 ⟨rfl, F9⟩; have KK := (‹_ ∧ Ke w1 w.heap.size _ _›).2.fr hl F9))
          all_goals
            cases p with
            | true =>
              go_wp2_with fail
              go_ret
              exact ⟨ret_int (by rw [HV.out, HP.out]; rfl), F1.pure KK.frame⟩
            | false =>
              go_wp2_with fail
              go_ret
              exact ⟨ret_int (by rw [HV.out, HP.out]; rfl), F1.pure KK.frame⟩
        · have hn1 : (a.node != b.node) = false := by rw [bne_eq_false_iff_eq]; exact hn
          have hs1 : (a.seq != b.seq) = true := by rw [bne_iff_ne]; exact hs
          have HV : Hid (provE ks a b = 1) := by unfold Hid; rw [HPV.out, if_pos (.inr hs)]
          clear hn hs
          go_wp2_with fail
          go_ret
          exact ⟨ret_int (by rw [HV.out]), F1.pure K3.frame⟩
      · have hn1 : (a.node != b.node) = true := by rw [bne_iff_ne]; exact hn
        have HV : Hid (provE ks a b = 1) := by unfold Hid; rw [HPV.out, if_pos (.inl hn)]
        clear hn
        go_wp2_with fail
        go_ret
        exact ⟨ret_int (by rw [HV.out]), F1.pure K3.frame⟩
    · have hy1 : (y != 0) = true := by rw [bne_iff_ne]; exact hy0
      have HV : Hid (provE ks a b = y) := by unfold Hid provE; rw [if_neg (by rw [← HX.out]; simp), if_pos (by rw [← HY.out]; exact hy0), HY.out]
      clear hy0
      go_wp2_with fail
      go_ret
      exact ⟨ret_int (by rw [HV.out]), F1.pure K3.frame⟩
  · have hx1 : (x != 0) = true := by rw [bne_iff_ne]; exact hx0
    have HV : Hid (provE ks a b = x) := by unfold Hid provE; rw [if_pos (by rw [← HX.out]; exact hx0), HX.out]
    clear hx0
    go_wp2_with fail
    go_ret
    exact ⟨ret_int (by rw [HV.out]), F1.pure K2.frame⟩
end Go.Proofs.YtidnnjgiogklaaaDoor

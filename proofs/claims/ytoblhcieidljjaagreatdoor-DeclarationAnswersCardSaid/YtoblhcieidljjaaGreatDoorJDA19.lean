/- Some texts of this claim, joined: contracts of the functions that it reaches, and plain laws. -/
import Derived.Test.YtoblhcieidljjaaGreatDoorProg
import Derived.Test.YtoblhcieidljjaaGreatDoorJDA18
import Derived.Test.YtoblhcieidljjaaGreatDoorJDA17
import Derived.Test.YtoblhcieidljjaaGreatDoorJDA9
import Derived.Test.YtoblhcieidljjaaGreatDoorJDA16

set_option linter.unusedSimpArgs false
set_option linter.unusedVariables false
/- Walks: Proves of declarations of all sorts (program and reference). -/
namespace Go.Proofs.YtoblhcieidljjaaGreatDoor
open Go.RowKit

/-- What Proves returns, for declarations of all sorts. -/
def provG (ks : List Nat) (a b : De) : Int := if chkA ks a ≠ 0 then chkA ks a else if chkA ks b ≠ 0 then chkA ks b else if a.node ≠ b.node ∨ a.seq ≠ b.seq then 1 else if Op.bytesLess (bytesS a) (bytesS b) = true then 0 else 7
theorem cmpD_eq {a b : De} (h1 : a.node = b.node) (h2 : a.seq = b.seq) : cmpD a b = cmpL (bytesS a) (bytesS b) := by
  unfold cmpD
  rw [orL3, if_pos (cmpI_eq h1), if_pos (cmpI_eq h2)]
theorem cmpD_less {a b : De} (h1 : a.node = b.node) (h2 : a.seq = b.seq) : (if Op.bytesLess (bytesS a) (bytesS b) = true then (0 : Int) else 7) = if cmpD a b < 0 then 0 else 7 := by
  rw [cmpD_eq h1 h2]
  unfold cmpL
  cases Op.bytesLess (bytesS a) (bytesS b) with
  | true => simp
  | false =>
    cases Op.bytesLess (bytesS b) (bytesS a) with
    | true => simp
    | false => simp
set_option maxRecDepth 100000 in
set_option maxHeartbeats 4000000 in
theorem provesG_any (ks : List Nat) (kv : Value) (a b : De) (th th' : Int) (A1 A2 a1 a2 : Option Addr) (n1 c1 n2 c2 m1 e1 m2 e2 : Nat) (w : World) (hks : ∀ y ∈ ks, y < 18446744073709551616) (hkv : SlD w (Dm w none) 1 kv (ks.map u64v))
    (ha : DeD w (Dm w none) (.agg #[.int .i64 a.node, .int .i64 a.seq, .int .i64 th, .slice A1 n1 c1, .slice A2 n2 c2, .int .u64 (a.tag : Int)]) a) (hb : DeD w (Dm w none) (.agg #[.int .i64 b.node, .int .i64 b.seq, .int .i64 th', .slice a1 m1 e1, .slice a2 m2 e2, .int .u64 (b.tag : Int)]) b) (hsa : a.tr.size ≤ 1073741000) (hsb : b.tr.size ≤ 1073741000) (hT : Tab w) :
    Calls Tryz.prog 32 #[kv, .agg #[.int .i64 a.node, .int .i64 a.seq, .int .i64 th, .slice A1 n1 c1, .slice A2 n2 c2, .int .u64 (a.tag : Int), .int .i64 b.node, .int .i64 b.seq, .int .i64 th', .slice a1 m1 e1, .slice a2 m2 e2, .int .u64 (b.tag : Int)]] w fun e w' => e = .returned (.int .i64 (provG ks a b)) ∧ Fr none w w' := by
  have HKS := Lib.hid hks
  clear hks
  go_enter Tryz.func32, Tryz.ntmps32
  go_upto_region 1 with (fail)
  generalize hW : w.alloc _ = w1
  have F1 : Fr none w w1 := hW ▸ (Fr.refl none w).alloc _
  have bt : w1.heap[w.heap.size]? = some (.cells #[.int .i64 a.node, .int .i64 a.seq, .int .i64 th, .slice A1 n1 c1, .slice A2 n2 c2, .int .u64 (a.tag : Int), .int .i64 b.node, .int .i64 b.seq, .int .i64 th', .slice a1 m1 e1, .slice a2 m2 e2, .int .u64 (b.tag : Int)] 61 (0, 0)) := by rw [← hW]; exact blk_new _ _
  clear hW
  have hl := blk_lt bt
  have K1 : Ke w1 w.heap.size #[.int .i64 a.node, .int .i64 a.seq, .int .i64 th, .slice A1 n1 c1, .slice A2 n2 c2, .int .u64 (a.tag : Int), .int .i64 b.node, .int .i64 b.seq, .int .i64 th', .slice a1 m1 e1, .slice a2 m2 e2, .int .u64 (b.tag : Int)] w1 := ⟨blk_cell bt, Fr.refl _ _⟩
  have R1 := K1.1
  have T1 := hT.fr F1
  have Ha := ha.keep (fr_dm F1)
  have Hb := hb.keep (fr_dm F1)
  have Hk := hkv.keep (fr_dm F1)
  clear bt hT ha hb hkv
  obtain ⟨x, hx⟩ : ∃ x, x = chkA ks a := ⟨_, rfl⟩
  obtain ⟨y, hy⟩ : ∃ y, y = chkA ks b := ⟨_, rfl⟩
  have HX := Lib.hid hx
  have HY := Lib.hid hy
  clear hx hy
  go_wp2_with fail
  refine (checkG_any ks _ a _ _ none HKS.out Hk Ha hsa T1).mono ?_
  rintro e w2 ⟨rfl, F2⟩
  rw [← HX.out]
  have K2 := K1.fr hl F2
  have R2 := K2.1
  clear R1
  by_cases hx0 : x = 0
  · subst hx0
    go_wp2_with fail
    refine (checkG_any ks _ b _ _ none HKS.out (Hk.keep (fr_dm F2)) (Hb.keep (fr_dm F2)) hsb (T1.fr F2)).mono ?_
    rintro e w3 ⟨rfl, F3⟩
    rw [← HY.out]
    have K3 := K2.fr hl F3
    have R3 := K3.1
    clear R2
    by_cases hy0 : y = 0
    · subst hy0
      have hpv : provG ks a b = if a.node ≠ b.node ∨ a.seq ≠ b.seq then 1 else if Op.bytesLess (bytesS a) (bytesS b) = true then 0 else 7 := by
        unfold provG
        rw [if_neg (by rw [← HX.out]; simp), if_neg (by rw [← HY.out]; simp)]
      have HPV := Lib.hid hpv
      clear hpv
      by_cases hn : a.node = b.node
      · by_cases hs : a.seq = b.seq
        · have hn1 : (a.node != b.node) = false := by rw [bne_eq_false_iff_eq]; exact hn
          have hs1 : (a.seq != b.seq) = false := by rw [bne_eq_false_iff_eq]; exact hs
          have HV : Hid (provG ks a b = if Op.bytesLess (bytesS a) (bytesS b) = true then 0 else 7) := by unfold Hid; rw [HPV.out, if_neg (by simp [hn, hs])]
          obtain ⟨Sa, hSa⟩ : ∃ S, S = bs (bytesS a) := ⟨_, rfl⟩
          obtain ⟨Sb, hSb⟩ : ∃ S, S = bs (bytesS b) := ⟨_, rfl⟩
          obtain ⟨p, hp⟩ : ∃ p, Op.bytesLess Sa.toList Sb.toList = p := ⟨_, rfl⟩
          have HP : Hid (Op.bytesLess (bytesS a) (bytesS b) = p) := by unfold Hid; rw [← hp, hSa, hSb, bs_toList, bs_toList]
          have HSa := Lib.hid hSa
          have HSb := Lib.hid hSb
          clear hSa hSb hn hs HPV
          go_upto_region 9 with (fail)
          have K4 : Ke w1 w.heap.size #[.int .i64 a.node, .int .i64 a.seq, .int .i64 th, .slice A1 n1 c1, .slice A2 n2 c2, .int .u64 (a.tag : Int), .int .i64 b.node, .int .i64 b.seq, .int .i64 th', .slice a1 m1 e1, .slice a2 m2 e2, .int .u64 (b.tag : Int)] w3.drew := ⟨K3.1, K3.2.drew⟩
          go_region_held3 (fun w' => (∀ i, w'.cell? ⟨w.heap.size, i, none⟩ = (#[.int .i64 a.node, .int .i64 a.seq, .int .i64 th, .slice A1 n1 c1, .slice A2 n2 c2, .int .u64 (a.tag : Int), .int .i64 b.node, .int .i64 b.seq, .int .i64 th', .slice a1 m1 e1, .slice a2 m2 e2, .int .u64 (b.tag : Int)] : Array Value)[i]?) ∧ Ke w1 w.heap.size #[.int .i64 a.node, .int .i64 a.seq, .int .i64 th, .slice A1 n1 c1, .slice A2 n2 c2, .int .u64 (a.tag : Int), .int .i64 b.node, .int .i64 b.seq, .int .i64 th', .slice a1 m1 e1, .slice a2 m2 e2, .int .u64 (b.tag : Int)] w') (first | (with_reducible exact ke_two K4) | (with_reducible exact ke_two KK))
            (first | (go_at_call 21; (with_reducible refine (bytes_fixP a Sa HSa (.agg #[.int .i64 a.node, .int .i64 a.seq, .int .i64 th, .slice A1 n1 c1, .slice A2 n2 c2, .int .u64 (a.tag : Int)]) _ none hsa (Ha.keep (fr_dm (‹_ ∧ Ke w1 w.heap.size _ _›).2.frame)) (T1.fr (‹_ ∧ Ke w1 w.heap.size _ _›).2.frame)).mono ?_); rintro e w9 ⟨rfl, F9⟩; have KK := (‹_ ∧ Ke w1 w.heap.size _ _›).2.fr hl F9) | (go_at_call 21; (with_reducible refine (bytes_fixP b Sb HSb (.agg #[.int .i64 b.node, .int .i64 b.seq, .int .i64 th', .slice a1 m1 e1, .slice a2 m2 e2, .int .u64 (b.tag : Int)]) _ none hsb (Hb.keep (fr_dm (‹_ ∧ Ke w1 w.heap.size _ _›).2.frame)) (T1.fr (‹_ ∧ Ke w1 w.heap.size _ _›).2.frame)).mono ?_); rintro e w9 ⟨rfl, F9⟩; have KK := (‹_ ∧ Ke w1 w.heap.size _ _›).2.fr hl F9))
          all_goals
            cases p with
            | true =>
              go_wp2_with fail
              go_ret
              exact ⟨ret_int (by rw [HV.out, HP.out]; rfl), F1.pure KK.frame⟩
            | false =>
              go_wp2_with fail
              go_ret
              exact ⟨ret_int (by rw [HV.out, HP.out]; rfl), F1.pure KK.frame⟩
        · have hn1 : (a.node != b.node) = false := by rw [bne_eq_false_iff_eq]; exact hn
          have hs1 : (a.seq != b.seq) = true := by rw [bne_iff_ne]; exact hs
          have HV : Hid (provG ks a b = 1) := by unfold Hid; rw [HPV.out, if_pos (.inr hs)]
          clear hn hs
          go_wp2_with fail
          go_ret
          exact ⟨ret_int (by rw [HV.out]), F1.pure K3.frame⟩
      · have hn1 : (a.node != b.node) = true := by rw [bne_iff_ne]; exact hn
        have HV : Hid (provG ks a b = 1) := by unfold Hid; rw [HPV.out, if_pos (.inl hn)]
        clear hn
        go_wp2_with fail
        go_ret
        exact ⟨ret_int (by rw [HV.out]), F1.pure K3.frame⟩
    · have hy1 : (y != 0) = true := by rw [bne_iff_ne]; exact hy0
      have HV : Hid (provG ks a b = y) := by unfold Hid provG; rw [if_neg (by rw [← HX.out]; simp), if_pos (by rw [← HY.out]; exact hy0), HY.out]
      clear hy0
      go_wp2_with fail
      go_ret
      exact ⟨ret_int (by rw [HV.out]), F1.pure K3.frame⟩
  · have hx1 : (x != 0) = true := by rw [bne_iff_ne]; exact hx0
    have HV : Hid (provG ks a b = x) := by unfold Hid provG; rw [if_pos (by rw [← HX.out]; exact hx0), HX.out]
    clear hx0
    go_wp2_with fail
    go_ret
    exact ⟨ret_int (by rw [HV.out]), F1.pure K2.frame⟩
set_option maxRecDepth 100000 in
set_option maxHeartbeats 4000000 in
theorem rprovesG_any (ks : List Nat) (kv : Value) (a b : De) (th th' : Int) (A1 A2 a1 a2 : Option Addr) (n1 c1 n2 c2 m1 e1 m2 e2 : Nat) (w : World) (hks : ∀ y ∈ ks, y < 18446744073709551616) (hkv : SlD w (Dm w none) 1 kv (ks.map u64v))
    (ha : DeD w (Dm w none) (.agg #[.int .i64 a.node, .int .i64 a.seq, .int .i64 th, .slice A1 n1 c1, .slice A2 n2 c2, .int .u64 (a.tag : Int)]) a) (hb : DeD w (Dm w none) (.agg #[.int .i64 b.node, .int .i64 b.seq, .int .i64 th', .slice a1 m1 e1, .slice a2 m2 e2, .int .u64 (b.tag : Int)]) b) (hsa : a.tr.size ≤ 1073741000) (hsb : b.tr.size ≤ 1073741000) (hT : Tab w) :
    Calls Tryz.prog 33 #[kv, .agg #[.int .i64 a.node, .int .i64 a.seq, .int .i64 th, .slice A1 n1 c1, .slice A2 n2 c2, .int .u64 (a.tag : Int), .int .i64 b.node, .int .i64 b.seq, .int .i64 th', .slice a1 m1 e1, .slice a2 m2 e2, .int .u64 (b.tag : Int)]] w fun e w' => e = .returned (.int .i64 (provG ks a b)) ∧ Fr none w w' := by
  have HKS := Lib.hid hks
  clear hks
  go_enter Tryz.func33, Tryz.ntmps33
  go_upto_region 1 with (fail)
  generalize hW : w.alloc _ = w1
  have F1 : Fr none w w1 := hW ▸ (Fr.refl none w).alloc _
  have bt : w1.heap[w.heap.size]? = some (.cells #[.int .i64 a.node, .int .i64 a.seq, .int .i64 th, .slice A1 n1 c1, .slice A2 n2 c2, .int .u64 (a.tag : Int), .int .i64 b.node, .int .i64 b.seq, .int .i64 th', .slice a1 m1 e1, .slice a2 m2 e2, .int .u64 (b.tag : Int)] 61 (0, 0)) := by rw [← hW]; exact blk_new _ _
  clear hW
  have hl := blk_lt bt
  have K1 : Ke w1 w.heap.size #[.int .i64 a.node, .int .i64 a.seq, .int .i64 th, .slice A1 n1 c1, .slice A2 n2 c2, .int .u64 (a.tag : Int), .int .i64 b.node, .int .i64 b.seq, .int .i64 th', .slice a1 m1 e1, .slice a2 m2 e2, .int .u64 (b.tag : Int)] w1 := ⟨blk_cell bt, Fr.refl _ _⟩
  have R1 := K1.1
  have T1 := hT.fr F1
  have Ha := ha.keep (fr_dm F1)
  have Hb := hb.keep (fr_dm F1)
  have Hk := hkv.keep (fr_dm F1)
  clear bt hT ha hb hkv
  obtain ⟨x, hx⟩ : ∃ x, x = chkA ks a := ⟨_, rfl⟩
  obtain ⟨y, hy⟩ : ∃ y, y = chkA ks b := ⟨_, rfl⟩
  have HX := Lib.hid hx
  have HY := Lib.hid hy
  clear hx hy
  go_wp2_with fail
  refine (rcheckG_any ks _ a _ _ none HKS.out Hk Ha hsa T1).mono ?_
  rintro e w2 ⟨rfl, F2⟩
  rw [← HX.out]
  have K2 := K1.fr hl F2
  have R2 := K2.1
  clear R1
  by_cases hx0 : x = 0
  · subst hx0
    go_wp2_with fail
    refine (rcheckG_any ks _ b _ _ none HKS.out (Hk.keep (fr_dm F2)) (Hb.keep (fr_dm F2)) hsb (T1.fr F2)).mono ?_
    rintro e w3 ⟨rfl, F3⟩
    rw [← HY.out]
    have K3 := K2.fr hl F3
    have R3 := K3.1
    clear R2
    by_cases hy0 : y = 0
    · subst hy0
      have hpv : provG ks a b = if a.node ≠ b.node ∨ a.seq ≠ b.seq then 1 else if Op.bytesLess (bytesS a) (bytesS b) = true then 0 else 7 := by
        unfold provG
        rw [if_neg (by rw [← HX.out]; simp), if_neg (by rw [← HY.out]; simp)]
      have HPV := Lib.hid hpv
      clear hpv
      by_cases hn : a.node = b.node
      · by_cases hs : a.seq = b.seq
        · have hn1 : (a.node != b.node) = false := by rw [bne_eq_false_iff_eq]; exact hn
          have hs1 : (a.seq != b.seq) = false := by rw [bne_eq_false_iff_eq]; exact hs
          have HV : Hid (provG ks a b = if Op.bytesLess (bytesS a) (bytesS b) = true then 0 else 7) := by unfold Hid; rw [HPV.out, if_neg (by simp [hn, hs])]
          have HV2 : Hid (provG ks a b = if cmpD a b < 0 then 0 else 7) := by unfold Hid; rw [HV.out, cmpD_less hn hs]
          obtain ⟨c, hc⟩ : ∃ c, c = cmpD a b := ⟨_, rfl⟩
          have HC := Lib.hid hc
          clear hc hn hs HPV HV
          go_wp2_with fail
          refine (rcompareD_any a b _ _ _ (Ha.keep (fr_dm K3.frame)) (Hb.keep (fr_dm K3.frame)) hsa hsb (T1.fr K3.frame)).mono ?_
          rintro e w9 ⟨rfl, F9⟩
          rw [← HC.out]
          have K9 := K3.fr hl F9
          by_cases hlt : c < 0
          · have HVV : Hid (provG ks a b = 0) := by unfold Hid; rw [HV2.out, ← HC.out, if_pos hlt]
            go_wp2_with fail
            go_ret
            exact ⟨ret_int (by rw [HVV.out]), F1.pure K9.frame⟩
          · have HVV : Hid (provG ks a b = 7) := by unfold Hid; rw [HV2.out, ← HC.out, if_neg hlt]
            have hge : 0 ≤ c := by omega
            clear hlt
            go_wp2_with fail
            go_ret
            exact ⟨ret_int (by rw [HVV.out]), F1.pure K9.frame⟩
        · have hn1 : (a.node != b.node) = false := by rw [bne_eq_false_iff_eq]; exact hn
          have hs1 : (a.seq != b.seq) = true := by rw [bne_iff_ne]; exact hs
          have HV : Hid (provG ks a b = 1) := by unfold Hid; rw [HPV.out, if_pos (.inr hs)]
          clear hn hs
          go_wp2_with fail
          go_ret
          exact ⟨ret_int (by rw [HV.out]), F1.pure K3.frame⟩
      · have hn1 : (a.node != b.node) = true := by rw [bne_iff_ne]; exact hn
        have HV : Hid (provG ks a b = 1) := by unfold Hid; rw [HPV.out, if_pos (.inl hn)]
        clear hn
        go_wp2_with fail
        go_ret
        exact ⟨ret_int (by rw [HV.out]), F1.pure K3.frame⟩
    · have hy1 : (y != 0) = true := by rw [bne_iff_ne]; exact hy0
      have HV : Hid (provG ks a b = y) := by unfold Hid provG; rw [if_neg (by rw [← HX.out]; simp), if_pos (by rw [← HY.out]; exact hy0), HY.out]
      clear hy0
      go_wp2_with fail
      go_ret
      exact ⟨ret_int (by rw [HV.out]), F1.pure K3.frame⟩
  · have hx1 : (x != 0) = true := by rw [bne_iff_ne]; exact hx0
    have HV : Hid (provG ks a b = x) := by unfold Hid provG; rw [if_pos (by rw [← HX.out]; exact hx0), HX.out]
    clear hx0
    go_wp2_with fail
    go_ret
    exact ⟨ret_int (by rw [HV.out]), F1.pure K2.frame⟩
end Go.Proofs.YtoblhcieidljjaaGreatDoor

/- Walks: declaration.copied: a trust that shares no memory. -/
namespace Go.Proofs.YtoblhcieidljjaaGreatDoor
open Go.RowKit

/-- append of any slice, as a step of a region that draws its order. -/
theorem step_app_any {P : Program} {t e : TypeId} {size bytes : Nat} (E : EInfo P t e size bytes) {w : World} {ops : Array Oper} {o : Oper} {a : Act} {K : Act → World → Prop} {Q : Exit → Act → World → Prop} {E' : Prop} (hgd : o.guard = none) (s x : Operand)
    (ho : o.op = .call { callee := .builtin .append, args := #[s, x], argTypes := #[t, t] })
    (base : Nat) (A : Option Addr) (n c : Nat) (xs : List Value) (hs : a.eval s = .slice A n c) (hown : w.ownsRow base e size (.slice A n c) n xs)
    (B : Option Addr) (m d : Nat) (news : List Value) (hx : a.eval x = .slice B m d) (hr : SlD w (fun _ => True) size (.slice B m d) news) (h1 : ∀ u ∈ news, u.oneCell' = true) (hb : (n + m) * bytes ≤ 140737488355328) (h63 : n + m ≤ maxLen) (hbase : base ≤ w.heap.size)
    (h : ∀ A' c' w', w'.ownsRow base e size (.slice A' (n + m) c') (n + m) (xs ++ news) → Fr (Value.slice A n c).ownBlock w w' → NewOr w.heap.size (.slice A n c) (.slice A' (n + m) c') → K (a.put o.dst (.slice A' (n + m) c')) w') :
    if Region.wanted o (yielded ops a.tmps) = true then Oper.wp P o a w K Q else E' := by
  have hw : Region.wanted o (yielded ops a.tmps) = true := by simp [Region.wanted, hgd]
  rw [if_pos hw]
  obtain ⟨A', c', w', hr, h2, h3, h4⟩ := app_run (P := P) (ty := o.type) E w base A n c xs hown B m d news hr h1 hb h63 hbase
  unfold Oper.wp execOp
  simp only [ho, resolve, invoke, builtin, Sem.run_bind, Sem.run_pure, Result.andThen_ok, List.map_toArray, List.map_cons, List.map_nil, hs, hx, hr]
  refine h A' c' w' h2 h3 ?_
  rcases h4 with bl' | bl'
  · exact .inl bl'
  · exact .inr ⟨_, bl', Nat.le_refl _⟩
/-- A copy of a trust, in memory of its own. -/
def CopyP (w : World) (t : Tr) (e : Ending) (w' : World) : Prop := ∃ v, e = .returned v ∧ TrD w' (Dn w.heap.size w') v t ∧ Fr none w w'

/-- The copy, before its inner trusts are there. -/
def CMid (w1 : World) (thr : Int) (nodes : List Int) (s : Value) (wr : World) : Prop := ∃ (B : Nat) (A5 : Option Addr) (c5 : Nat), s = .pointer (some ⟨B, 0, none⟩) ∧
  Fr none w1 wr ∧ w1.heap.size ≤ B ∧ B < wr.heap.size ∧ TB wr B (.int .i64 thr) (.slice A5 nodes.length c5) (.slice none 0 0) ∧ SlD wr (fun b => w1.heap.size ≤ b ∧ b < wr.heap.size ∧ b ≠ B) 1 (.slice A5 nodes.length c5) (nodes.map (Value.int .i64))
theorem cmid_x {w1 w5 : World} {thr : Int} {nodes : List Int} {A5 : Option Addr} {c5 : Nat} (F : Fr none w1 w5) (own : w5.ownsRow w1.heap.size 3 1 (.slice A5 nodes.length c5) nodes.length (nodes.map (Value.int .i64))) :
    CMid w1 thr nodes (.pointer (some ⟨w5.heap.size, 0, none⟩)) (w5.alloc (.cells #[.int .i64 thr, .slice A5 nodes.length c5, .slice none 0 0] 31)) :=
  ⟨_, A5, c5, rfl, F.alloc _, F.size, by simp, blk_new _ _, (SlD.own_dn own).keep fun k hk => ⟨⟨hk.1, by have := hk.2; simp; omega, by have := hk.2; omega⟩, ((Fr.refl none w5).alloc _).block k hk.2 (by simp)⟩⟩
theorem tb_fill {w : World} {b : Nat} {z0 z1 z2 : Value} (h : TB w b z0 z1 z2) (x0 x1 x2 : Value) : TB (((w.setCell ⟨b, 0, none⟩ x0).setCell ⟨b, 1, none⟩ x1).setCell ⟨b, 2, none⟩ x2) b x0 x1 x2 := by
  have := blk_set (blk_set (blk_set h 0 x0) 1 x1) 2 x2
  simpa [TB] using this
theorem cmid_y {w1 w5 : World} {thr : Int} {nodes : List Int} {A5 : Option Addr} {c5 : Nat} {z0 z1 z2 : Value} (F : Fr none w1 w5) (own : w5.ownsRow (w1.heap.size + 1) 3 1 (.slice A5 nodes.length c5) nodes.length (nodes.map (Value.int .i64))) (hb : TB w5 w1.heap.size z0 z1 z2) :
    CMid w1 thr nodes (.pointer (some ⟨w1.heap.size, 0, none⟩)) (((w5.setCell ⟨w1.heap.size, 0, none⟩ (.int .i64 thr)).setCell ⟨w1.heap.size, 1, none⟩ (.slice A5 nodes.length c5)).setCell ⟨w1.heap.size, 2, none⟩ (.slice none 0 0)) := by
  have G := fr_fill3 w5 w1.heap.size (.int .i64 thr) (.slice A5 nodes.length c5) (.slice none 0 0)
  have hz := G.size
  have hlt := blk_lt hb
  exact ⟨_, A5, c5, rfl, F.own G (by simp), Nat.le_refl _, by omega, tb_fill hb _ _ _, (SlD.own_dn own).keep fun k hk => ⟨⟨by have := hk.1; omega, by have := hk.2; omega, by have := hk.1; omega⟩, G.block k hk.2 (by have := hk.1; simp; omega)⟩⟩

set_option maxRecDepth 100000 in
set_option maxHeartbeats 4000000 in
theorem copied_any (d : Nat) : ∀ (t : Tr) (v : Value) (w : World) (r : Option Nat), t.dep ≤ d → TrR w r v t →
    Calls Tryz.prog 84 #[v] w (CopyP w t) := by
  induction d with
  | zero =>
    intro t v w r hd
    cases t
    simp [Tr.dep] at hd
  | succ d ih =>
    intro t v w r hd h
    obtain ⟨thr, nodes, inner⟩ := t
    obtain ⟨A, c, A', c', rfl, hthr, hn, hn2, hi2, hi3, hi4, hcell⟩ := h.open_
    have hdi : depL inner ≤ d := by simp only [Tr.dep] at hd; omega
    have hn2' := hn.2
    clear hd
    go_enter Tryz.func84, Tryz.ntmps84
    go_upto_region 1 with (fail)
    generalize hW : (w.alloc _).alloc _ = w1
    have hz : w1.heap.size = w.heap.size + 2 := by rw [← hW]; simp
    have F1 : Fr none w w1 := hW ▸ ((Fr.refl _ w).alloc _).alloc _
    have b1 : TB w1 w.heap.size (.int .i64 thr) (.slice A nodes.length c) (.slice A' inner.length c') := by
      rw [← hW]; exact (Below.heap_alloc _ _ _ (by simp)).trans (blk_new _ _)
    have b2 : TB w1 (w.heap.size + 1) (.int .i64 0) (.slice none 0 0) (.slice none 0 0) := by
      rw [← hW]; exact blk_new_at (by simp) _
    have hn' := hn.fr (F1.mono (r := r))
    have hs1 : SlD w1 (fun _ => True) 1 (.slice A nodes.length c) (nodes.map (Value.int .i64)) := hn'.1.any
    have hs1a : SlD (w1.alloc (.cells #[.int .i64 0, .slice none 0 0, .slice none 0 0] 31)).drew (fun _ => True) 1 (.slice A nodes.length c) (nodes.map (Value.int .i64)) := ((hn'.fr ((Fr.refl r w1).alloc _)).1.keep (fun k hk => ⟨trivial, rfl⟩))
    have hs1d : SlD w1.drew (fun _ => True) 1 (.slice A nodes.length c) (nodes.map (Value.int .i64)) := hs1.keep (fun k hk => ⟨trivial, rfl⟩)
    have R1 := b1.cell
    have Z1 := b1.free
    have h1c : ∀ u ∈ nodes.map (Value.int .i64), u.oneCell' = true := fun u hu => by
      obtain ⟨x, _, rfl⟩ := List.mem_map.1 hu
      simp [Value.oneCell']
    have H1C := Lib.hid h1c
    clear hW hn hs1 h1c
    have hlt1 : w.heap.size + 2 ≤ w1.heap.size := by omega
    have hlt0 : w.heap.size < w1.heap.size := by omega
    have hlt2 : w.heap.size + 1 < w1.heap.size := by omega
    clear hz
    go_cut [3, 6, 7, 8, 9, 10, 11] (fun s3 _ _ _ _ _ _ wr => CMid w1 thr nodes s3 wr)
    case first =>
     go_region_law (first
      | (refine step_app_any eiInt rfl _ _ rfl w1.heap.size none 0 0 [] rfl (World.ownsRow_nil _ _ _ _) A nodes.length c _ rfl hs1d H1C.out (by omega) (by unfold maxLen; omega) (by simp) ?_; intro A5 c5 w5 own5 F5 bl5; have F5' : Fr none w1 w5 := (Fr.refl none w1).drew.pure F5; have X1 := (b1.fr F5' (by simp)).cell; have hl5 : w.heap.size < w5.heap.size := (by have := F5'.size; omega))
      | (refine step_app_any eiInt rfl _ _ rfl (w1.heap.size + 1) none 0 0 [] rfl (World.ownsRow_nil _ _ _ _) A nodes.length c _ rfl hs1a H1C.out (by omega) (by unfold maxLen; omega) (by simp) ?_; intro A5 c5 w5 own5 F5 bl5; have b3 : TB w5 w1.heap.size (.int .i64 0) (.slice none 0 0) (.slice none 0 0) := blk_fr (w := (w1.alloc _).drew) (blk_new w1 _) F5 (by simp [Value.ownBlock]); have X3 := b3.cell; have X2 := b3.free; have F5' : Fr none w1 w5 := ((Fr.refl none w1).alloc _).drew.pure F5; have X1 := (b1.fr F5' (by simp)).cell; have hl5 : w.heap.size < w5.heap.size := (by have := F5'.size; omega)))
     all_goals
      go_wp2_with fail
      go_meet
      simp only [Nat.zero_add, List.nil_append] at own5
      first | exact cmid_x F5' own5 | exact cmid_y F5' own5 b3
    case rest =>
      obtain ⟨B, A5, c5, rfl, FM, hB1, hB2, tB, sN⟩ := hcut
      have bM1 := b1.fr FM (by simp)
      have bM2 := b2.fr FM (by simp)
      have RM := bM1.cell
      have hzM := FM.size
      clear R1 Z1 hs1a hs1d H1C hn' b1
      go_wp2_with fail
      go_loopw [15] (fun i wr => ∃ (k : Nat) (A2 : Option Addr) (c2 : Nat) (cells : List Value), k ≤ inner.length ∧ i = .int .i64 k ∧ Fr none w1 wr ∧ wc.heap.size ≤ wr.heap.size ∧ TB wr B (.int .i64 thr) (.slice A5 nodes.length c5) (.slice A2 k c2) ∧ TB wr (w.heap.size + 1) (.int .i64 0) (.slice none 0 0) (.slice none 0 0) ∧ SlD wr (fun b => w1.heap.size ≤ b ∧ b < wc.heap.size ∧ b ≠ B) 1 (.slice A5 nodes.length c5) (nodes.map (Value.int .i64)) ∧ wr.ownsRow wc.heap.size 31 3 (.slice A2 k c2) k cells ∧ TrsD wr (Dx wc.heap.size wr (.slice A2 k c2)) cells (inner.take k)) (fun i _ => inner.length - (intOf i).toNat)
      case atStart => exact ⟨0, none, 0, [], Nat.zero_le _, rfl, FM, Nat.le_refl _, tB, bM2, sN, World.ownsRow_nil _ _ _ _, by simp [TrsD]⟩
      case round =>
        clear FM tB sN bM1 bM2 RM
        obtain ⟨k, A2, c2, cells, hk, rfl, F, hwc, tB, t2, sN, own, hts⟩ := hrel
        by_cases hlt : k < inner.length
        · obtain ⟨gb, off, rfl, hb, hbr, hc⟩ := hcell (by omega)
          obtain ⟨x, y, z, g0, g1, g2, gt⟩ := hc k hlt
          obtain ⟨th, a1, m1, e1, a2, m2, e2, rfl, rfl, rfl⟩ := gt.shape
          have F3 := F1.pure F
          have g0' := F3.keep g0 (by simp)
          have g1' := F3.keep g1 (by simp)
          have g2' := F3.keep g2 (by simp)
          have hdd : (inner[k]).dep ≤ d := by have := depL_get inner k hlt; omega
          have gt' := (gt.fr (F3.mono (r := r)))
          have htk : inner.take (k + 1) = inner.take k ++ [inner[k]] := List.take_succ_eq_append_getElem hlt
          have HTK := Lib.hid htk
          clear g0 g1 g2 hc htk
          go_upto_region 5 with (fail)
          generalize hW : wr.alloc _ = wq
          have Fq : Fr none wr wq := hW ▸ (Fr.refl none wr).alloc _
          have b5 : TB wq wr.heap.size (.int .i64 th) (.slice a1 m1 e1) (.slice a2 m2 e2) := by rw [← hW]; exact blk_new _ _
          have hzq := Fq.size
          have hzl : wr.heap.size < wq.heap.size := blk_lt b5
          have gq : TrR wq.drew r (.agg #[.int .i64 th, .slice a1 m1 e1, .slice a2 m2 e2]) inner[k] := (gt'.fr (Fq.mono (r := r))).fr (Fr.refl _ _).drew
          have K7 := tB.fr Fq (by simp)
          have R5 := b5.cell
          have R7 := K7.cell
          have Z7 := K7.free
          have ownq := own_fr own Fq (by simp)
          clear hW g0' g1' g2' gt gt'
          go_region_law (first
            | (go_simp; go_at_call 84; refine (ih inner[k] _ _ r hdd (by exact gq)).mono ?_; rintro e w3 ⟨v3, rfl, hT3, F3'⟩; obtain ⟨th', a1', n1', e1', a2', n2', e2', rfl⟩ := hT3.shape; have F3' := ((Fr.refl none wq).drew).pure F3'; have T3x := K7.fr F3' (by simp); have R3 := T3x.cell; have Z3 := T3x.free; have own3 := own_fr ownq F3' (by simp); have hz3 := F3'.size; have hB3 : B < w3.heap.size := (by omega))
            | (refine step_app_lit eiTrust rfl _ _ rfl wc.heap.size A2 k c2 _ rfl own3 1 [.int .i64 th', .slice a1' n1' e1', .slice a2' n2' e2'] 31 _ rfl (by simp) rfl (by simp [Value.oneCell']) (by omega) (by unfold maxLen; omega) (by omega) ?_; intro A3 c3 w5 own5 F5 bl5; have T5 := T3x.fr F5 (own_ne own3 (by omega)); have R6 := T5.cell; have Z6 := T5.free))
          all_goals
            go_wp2_with fail
            have FS := Fr.set1 w5 ⟨B, 2, none⟩ (.slice A3 (k + 1) c3)
            have og := own_blk_ge own3
            have ol := own.lt
            have hz5 := F5.size
            have hzS := FS.size
            go_roundw
            case rel =>
              have t1 := (TrsD.keep (dx_fr FS (by simp; omega)) _ _ (TrsD.keep (dx_app F5 bl5) _ _ (TrsD.keep (dx_fr F3' (by simp)) _ _ (TrsD.keep (dx_fr Fq (by simp)) _ _ hts))))
              have t3 := TrD.keep (dx_fr FS (by simp; omega)) _ _ (TrD.keep (dx_app F5 bl5) _ _ (TrD.keep (dn_dx (B := wc.heap.size) (v := .slice A2 k c2) (by simp; omega) (fun q hq => by have := (ol q hq).2; simp; omega)) _ _ hT3))
              refine ⟨k + 1, A3, c3, cells ++ [.int .i64 th', .slice a1' n1' e1', .slice a2' n2' e2'], by omega, by go_num, (((F.pure Fq).pure F3').own F5 (fun q e => by have := og q e; omega)).own FS (by simp; omega), by omega, T5.set2 _, (((t2.fr Fq (by simp)).fr F3' (by simp)).fr F5 (own_ne own3 (by omega))).fr FS (by simp; omega), ?_, own_fr own5 FS (by simp; omega), by rw [HTK.out]; exact TrsD.append t1 (by simp only [TrsD]; exact ⟨_, _, _, [], rfl, t3, rfl⟩)⟩
              exact (((sN.keep (fun q hq => ⟨hq, Fq.block q (by omega) (by simp)⟩)).keep (fun q hq => ⟨hq, F3'.block q (by omega) (by simp)⟩)).keep (fun q hq => ⟨hq, F5.block q (by omega) (fun e => by have := og q e.symm; omega)⟩)).keep (fun q hq => ⟨hq, FS.block q (by omega) (by simp; omega)⟩)
            case measure => simp [intOf]; omega
        · obtain rfl : k = inner.length := by omega
          have R7 := tB.cell
          have R2 := t2.cell
          have Z2 := t2.free
          go_wp2_with fail
          refine bodyPost_ret (v := .agg #[.int .i64 thr, .slice A5 nodes.length c5, .slice A2 inner.length c2]) (by simp [results, Tryz.results84, go_sem, R2]) rfl ?_
          have G := fr_fill3 wr (w.heap.size + 1) (.int .i64 thr) (.slice A5 nodes.length c5) (.slice A2 inner.length c2)
          rw [List.take_length] at hts
          have hzG := G.size
          refine ⟨_, rfl, TrD.mk_ hthr (sN.keep (fun q hq => ⟨⟨by omega, by omega⟩, G.block q (by omega) (by simp; omega)⟩)) hn2' ((SlD.own_dn own).keep (fun q hq => ⟨⟨by have := hq.1; omega, by have := hq.2; omega⟩, G.block q hq.2 (by have := hq.1; simp; omega)⟩)) hn2 hi2 (TrsD.keep (fun q hq => ⟨⟨by have := hq.1; omega, by have := hq.2.1; omega⟩, G.block q hq.2.1 (by have := hq.1; simp; omega)⟩) _ _ hts), ?_⟩
          exact (F1.pure F).own G (by simp)
end Go.Proofs.YtoblhcieidljjaaGreatDoor

/- Walks: declaration.Sign. -/
namespace Go.Proofs.YtoblhcieidljjaaGreatDoor
open Go.RowKit

/-- A signed declaration, in memory of its own. -/
def SignP (w : World) (k : Nat) (nd sq : Int) (t : Tr) (e : Ending) (w' : World) : Prop :=
  ∃ v, e = .returned (.tuple #[v, .int .i64 0]) ∧ DeD w' (Dn w.heap.size w') v ⟨nd, sq, t, tagS k (bytesS ⟨nd, sq, t, 0⟩)⟩ ∧ Fr none w w'
set_option maxRecDepth 100000 in
set_option maxHeartbeats 2000000 in
theorem sign_any (k : Nat) (hk : k < 18446744073709551616) (nd sq : Int) (t : Tr) (v : Value) (w : World) (r : Option Nat) (hn : Wi nd) (hq : Wi sq) (h : TrR w r v t) (hT : Tab w) (hp : plainE ⟨nd, sq, t, 0⟩ = 0) :
    Calls Tryz.prog 29 #[.int .u64 k, .int .i64 nd, .int .i64 sq, v] w (SignP w k nd sq t) := by
  have hs : t.size ≤ 1073741000 := by have := (plain_parts hp).2.2.2.2; simp only at this; omega
  obtain ⟨th, A1, n1, c1, A2, n2, c2, rfl⟩ := TrD.shape h
  have HK := Lib.hid hk
  have HP := Lib.hid hp
  have hb0 : (bytesS ⟨nd, sq, t, 0⟩).length ≤ 2500 := bytes_len _
  obtain ⟨L, hL⟩ : ∃ L, L = bytesS ⟨nd, sq, t, 0⟩ := ⟨_, rfl⟩
  rw [← hL] at hb0
  have HL := Lib.hid hL
  clear hk hp hL
  go_enter Tryz.func29, Tryz.ntmps29
  go_wp2_with fail
  generalize hW : (w.alloc _).alloc _ = w0
  have hz0 : w0.heap.size = w.heap.size + 2 := by rw [← hW]; simp
  have F0 : Fr none w w0 := hW ▸ ((Fr.refl none w).alloc _).alloc _
  have b8 : DB w0 (w.heap.size + 1) (.int .i64 0) (.int .i64 0) (.int .i64 0) (.slice none 0 0) (.slice none 0 0) (.int .u64 0) := by
    rw [← hW]
    exact blk_new_at (by simp) _
  clear hW
  have h0 := h.fr (F0.mono (r := r))
  refine (copied_any t.dep t _ _ r (Nat.le_refl _) h0).mono ?_
  rintro e wc ⟨v3, rfl, hT3, Fc⟩
  obtain ⟨th', a1, m1, e1, a2, m2, e2, rfl⟩ := hT3.shape
  have b8 := b8.fr Fc (by simp)
  have hzc := Fc.size
  have F0c := F0.pure Fc
  have hT3 := TrD.keep (D' := fun b => w.heap.size + 2 ≤ b ∧ b < wc.heap.size) (fun q hb => ⟨⟨by have := hb.1; omega, hb.2⟩, rfl⟩) _ _ hT3
  have Tc := hT.fr F0c
  have hlt1 : w.heap.size + 1 < wc.heap.size := by omega
  clear hz0 h0 Fc F0 h hT
  go_wp2_with fail
  generalize hW : wc.alloc _ = w1
  have F1 : Fr none wc w1 := hW ▸ (Fr.refl none wc).alloc _
  have b10 : DB w1 wc.heap.size (.int .i64 nd) (.int .i64 sq) (.int .i64 th') (.slice a1 m1 e1) (.slice a2 m2 e2) (.int .u64 0) := by
    rw [← hW]
    exact blk_new _ _
  clear hW
  have b8 := b8.fr F1 (by simp)
  have hT4 := TrD.keep (fun q hb => ⟨hb, F1.block q hb.2 (by simp)⟩) _ _ hT3
  have hz11 := F1.size
  have h1 : DeD w1 (Dm w1 none) (.agg #[.int .i64 nd, .int .i64 sq, .int .i64 th', .slice a1 m1 e1, .slice a2 m2 e2, .int .u64 0]) ⟨nd, sq, t, 0⟩ := ⟨th', _, _, rfl, TrD.keep (fun q hb => ⟨⟨by omega, by simp⟩, rfl⟩) _ _ hT4, hn, hq, by simp⟩
  have T1 := Tc.fr F1
  have F01 := F0c.pure F1
  refine (plain_any ⟨nd, sq, t, 0⟩ _ _ none hs h1).mono ?_
  rintro e w2 ⟨rfl, F2⟩
  rw [HP.out]
  have b10' := b10.fr F2 (by simp)
  have R10 := b10'.cell
  have h2 := h1.keep (fr_dm F2)
  have T2 := T1.fr F2
  go_wp2_with fail
  refine (bytes_any ⟨nd, sq, t, 0⟩ _ _ none hs h2 T2).mono ?_
  rintro e w3 ⟨S, rfl, hS, hSs, F3⟩
  have HS := Lib.hid hS
  clear hS
  go_wp2_with fail
  refine (tag_any k HK.out S _ (by omega)).mono ?_
  rintro e w4 ⟨rfl, F4⟩
  obtain ⟨g, hg⟩ : ∃ g, g = tagS k S.data.toList := ⟨_, rfl⟩
  rw [← hg]
  have hg2 : g = tagS k L := by rw [hg, HS.out, bs_list, HL.out]
  have HG := Lib.hid hg2
  have F14 := (F2.pure F3).pure F4
  have hz4 := F14.size
  have hz1 := F1.size
  have c10 := (b10.fr F14 (by simp))
  have c8 := b8.fr F14 (by simp)
  have hT5 := TrD.keep (fun q hb => ⟨hb, F14.block q (by omega) (by simp)⟩) _ _ hT4
  have Rc := c10.cell
  have Zc := c10.free
  have R8 := c8.cell
  have Z8 := c8.free
  have hne : ¬ w.heap.size + 1 = wc.heap.size := by omega
  have hne2 : ¬ wc.heap.size = w.heap.size + 1 := by omega
  clear hg hg2 R10 b10' h2 T2 HS
  go_wp2_with fail
  refine bodyPost_ret (v := .tuple #[.agg #[.int .i64 nd, .int .i64 sq, .int .i64 th', .slice a1 m1 e1, .slice a2 m2 e2, .int .u64 (g : Nat)], .int .i64 0]) (by simp [results, Tryz.results29, go_sem, R8, hne, hne2]) rfl ?_
  have G := Fr.set1 w4 ⟨wc.heap.size, 5, none⟩ (.int .u64 (g : Nat))
  have H := fr_fill6 (w4.setCell ⟨wc.heap.size, 5, none⟩ (.int .u64 (g : Nat))) (w.heap.size + 1) (.int .i64 nd) (.int .i64 sq) (.int .i64 th') (.slice a1 m1 e1) (.slice a2 m2 e2) (.int .u64 (g : Nat))
  have hzG := G.size
  have hzH := H.size
  refine ⟨_, rfl, ?_, ((F01.pure F14).own G (by simp; omega)).own H (by simp)⟩
  rw [← HL.out, ← HG.out]
  exact ded_mk (TrD.keep (fun q hb => ⟨⟨by omega, by omega⟩, (H.block q (by omega) (by simp; omega)).trans (G.block q (by omega) (by simp; omega))⟩) _ _ hT5) hn hq (by rw [HG.out]; exact tagS_lt _ _)
end Go.Proofs.YtoblhcieidljjaaGreatDoor

/- Walks: the law's spoilt (layer 7): a text with something changed. -/
namespace Go.Proofs.YtoblhcieidljjaaGreatDoor
open Go.RowKit

/-- Some text, not much longer. -/
def Spt7P (n : Nat) (w : World) (g : Nat) (e : Ending) (w' : World) : Prop := ∃ S : ByteArray, e = .returned (.string S) ∧ S.size ≤ n + 12 ∧ SrcR 84 w' g ∧ Fr (some g) w w'
set_option maxRecDepth 100000 in
set_option maxHeartbeats 4000000 in
theorem spoilt07_any (S : ByteArray) (g : Nat) (w : World) (hS : S.size ≤ 1073741000) (S0 : SrcR 84 w g) : Calls Tryz.prog 34 #[.pointer (some ⟨g, 0, none⟩), .string S] w (Spt7P S.size w g) := by
  have hg := S0.lt
  go_enter Tryz.func34, Tryz.ntmps34
  go_wp2_with fail
  refine (tapeN_any ((S.size : Int) + 1) g _ (by omega) (by omega) S0).mono ?_
  rintro e w1 ⟨k, rfl, k1, k2, S1, F1⟩
  obtain ⟨k, rfl⟩ := Int.eq_ofNat_of_zero_le k1
  have hz1 := F1.size
  go_wp2_with fail
  generalize hW : w1.alloc _ = w2
  have F2 : Fr none w1 w2 := hW ▸ (Fr.refl none w1).alloc _
  have hz2 : w2.heap.size = w1.heap.size + 1 := by rw [← hW]; simp
  have hb : w2.heap[w1.heap.size]? = some (.cells #[.string ⟨#[]⟩, .string ⟨#[32]⟩, .string ⟨#[48]⟩, .string ⟨#[100]⟩, .string ⟨#[103]⟩, .string ⟨#[65]⟩, .string ⟨#[49, 32]⟩, .string ⟨#[41]⟩] 9) := by rw [← hW]; exact blk_new _ _
  clear hW
  have S2 := S1.fr F2
  refine (tapeN_any 8 g w2 (by omega) (by omega) S2).mono ?_
  rintro e w3 ⟨a, rfl, a1, a2, S3, F3⟩
  obtain ⟨a, rfl⟩ := Int.eq_ofNat_of_zero_le a1
  obtain ⟨Z, hZ, hzz⟩ : ∃ Z : ByteArray, w2.cell? ⟨w1.heap.size, a, none⟩ = some (.string Z) ∧ Z.size ≤ 12 := by
    have hc := blk_cell hb a
    rcases (show a = 0 ∨ a = 1 ∨ a = 2 ∨ a = 3 ∨ a = 4 ∨ a = 5 ∨ a = 6 ∨ a = 7 by omega) with rfl | rfl | rfl | rfl | rfl | rfl | rfl | rfl
    all_goals exact ⟨_, hc, by decide⟩
  have hZ := F3.keep hZ (by simp; omega)
  have F03 := (F1.pure F2).same F3
  have hz3 := F3.size
  have ha9 : a < 8 := by omega
  clear hb S2 F2 F1 S1 F3
  have hkS : k ≤ S.size := by omega
  have hk0 : (S.extract 0 k).size ≤ k := by rw [ByteArray.size_extract]; omega
  obtain ⟨X1, H1, z1, r1⟩ := str_add (S.extract 0 k) Z (by omega) (by omega)
  go_upto_region 3 with (fail)
  refine wp_region_held_drew (S := fun W => Fr (some g) w3 W) (by kernel_rfl) (Fr.refl _ _).drew (fun hH0 => ?_)
  refine wpAnyH_take (i := 0) (v := ?_) rfl (by kernel_rfl) (by kernel_rfl) (by kernel_rfl) (fun _ _ _ h => h) (Or.inl ⟨by rfl, ?_⟩) (by assumption) ?_
  rotate_left
  · (intro W hW; (try dsimp only at hW); go_simp; try with_reducible rfl)
  try simp only [Act.put, List.setIfInBounds_toArray, List.set_cons_zero, List.set_cons_succ, List.getElem_toArray, List.getElem_cons_zero, List.getElem_cons_succ]
  refine wpAnyH_take (i := 1) (v := ?_) rfl (by kernel_rfl) (by kernel_rfl) (by kernel_rfl) (fun _ _ _ h => h) (Or.inl ⟨by rfl, ?_⟩) (by assumption) ?_
  rotate_left
  · (intro W hW; (try dsimp only at hW); go_simp; try with_reducible rfl)
  try simp only [Act.put, List.setIfInBounds_toArray, List.set_cons_zero, List.set_cons_succ, List.getElem_toArray, List.getElem_cons_zero, List.getElem_cons_succ]
  refine wpAnyH_take (i := 2) (v := ?_) rfl (by kernel_rfl) (by kernel_rfl) (by kernel_rfl) (fun _ _ _ h => h) (Or.inl ⟨by rfl, ?_⟩) (by assumption) ?_
  rotate_left
  · (intro W hW; (try dsimp only at hW); go_simp; try with_reducible rfl)
  try simp only [Act.put, List.setIfInBounds_toArray, List.set_cons_zero, List.set_cons_succ, List.getElem_toArray, List.getElem_cons_zero, List.getElem_cons_succ]
  refine wpAnyH_take (i := 3) (v := ?_) rfl (by kernel_rfl) (by kernel_rfl) (by kernel_rfl) (fun _ _ _ h => h) (Or.inl ⟨by rfl, ?_⟩) (by assumption) ?_
  rotate_left
  · (intro W hW; (try dsimp only at hW); go_simp; try with_reducible rfl)
  try simp only [Act.put, List.setIfInBounds_toArray, List.set_cons_zero, List.set_cons_succ, List.getElem_toArray, List.getElem_cons_zero, List.getElem_cons_succ]
  refine wpAnyH_take (i := 4) (v := ?_) rfl (by kernel_rfl) (by kernel_rfl) (by kernel_rfl) (fun _ _ _ h => h) (Or.inl ⟨by rfl, ?_⟩) (by assumption) ?_
  rotate_left
  · (intro W hW; (try dsimp only at hW); go_simp; try with_reducible rfl)
  try simp only [Act.put, List.setIfInBounds_toArray, List.set_cons_zero, List.set_cons_succ, List.getElem_toArray, List.getElem_cons_zero, List.getElem_cons_succ]
  refine wpAnyH_take (i := 5) (v := ?_) rfl (by kernel_rfl) (by kernel_rfl) (by kernel_rfl) (fun _ _ _ h => h) (Or.inl ⟨by rfl, ?_⟩) (by assumption) ?_
  rotate_left
  · (intro W hW; (try dsimp only at hW); go_simp; try with_reducible rfl)
  try simp only [Act.put, List.setIfInBounds_toArray, List.set_cons_zero, List.set_cons_succ, List.getElem_toArray, List.getElem_cons_zero, List.getElem_cons_succ]
  refine wpAnyH_take (i := 6) (v := ?_) rfl (by kernel_rfl) (by kernel_rfl) (by kernel_rfl) (fun _ _ _ h => h) (Or.inl ⟨by rfl, ?_⟩) (by assumption) ?_
  rotate_left
  · (intro W hW; (try dsimp only at hW); go_simp; try with_reducible rfl)
  try simp only [Act.put, List.setIfInBounds_toArray, List.set_cons_zero, List.set_cons_succ, List.getElem_toArray, List.getElem_cons_zero, List.getElem_cons_succ]
  refine wpAnyH_take (i := 7) (v := ?_) rfl (by kernel_rfl) (by kernel_rfl) (by kernel_rfl) (fun _ _ _ h => h) (Or.inl ⟨by rfl, ?_⟩) (by assumption) ?_
  rotate_left
  · (intro W hW; (try dsimp only at hW); go_simp; try with_reducible rfl)
  try simp only [Act.put, List.setIfInBounds_toArray, List.set_cons_zero, List.set_cons_succ, List.getElem_toArray, List.getElem_cons_zero, List.getElem_cons_succ]
  refine wpAnyH_take (i := 8) (v := ?_) rfl (by kernel_rfl) (by kernel_rfl) (by kernel_rfl) (fun _ _ _ h => h) (Or.inl ⟨by rfl, ?_⟩) (by assumption) ?_
  rotate_left
  · (intro W hW; (try dsimp only at hW); go_simp; try with_reducible rfl)
  try simp only [Act.put, List.setIfInBounds_toArray, List.set_cons_zero, List.set_cons_succ, List.getElem_toArray, List.getElem_cons_zero, List.getElem_cons_succ]
  refine wpAnyH_take (i := 9) (v := ?_) rfl (by kernel_rfl) (by kernel_rfl) (by kernel_rfl) (fun _ _ _ h => h) (Or.inl ⟨by rfl, ?_⟩) (by assumption) ?_
  rotate_left
  · (intro W hW; (try dsimp only at hW); go_simp; try with_reducible rfl)
  try simp only [Act.put, List.setIfInBounds_toArray, List.set_cons_zero, List.set_cons_succ, List.getElem_toArray, List.getElem_cons_zero, List.getElem_cons_succ]
  refine wpAnyH_ready (rs := [10]) (by kernel_rfl) (by simp) ?_
  refine AllReadyH.cons rfl (fun K hK => ?_) AllReadyH.nil
  simp only [List.getElem_toArray, List.getElem_cons_zero, List.getElem_cons_succ]
  go_simp
  go_at_call 10
  refine (tapeN_any 3 g _ (by omega) (by omega) S3.drew).mono ?_
  rintro e w4 ⟨d, rfl, d1, d2, S4, F4⟩
  obtain ⟨d, rfl⟩ := Int.eq_ofNat_of_zero_le d1
  have F34 := ((Fr.refl (some g) w3).drew).same F4
  have hd3 : d < 3 := by omega
  refine hK.out _ _ F34 (fun hH1 => ?_)
  clear hK K hH0
  try simp only [Act.put, List.setIfInBounds_toArray, List.set_cons_zero, List.set_cons_succ, List.getElem_toArray, List.getElem_cons_zero, List.getElem_cons_succ]
  have hwr : IntKind.i64.wrap ((k : Int) + (d : Int)) = (k : Int) + (d : Int) := by rw [IntKind.wrap_i64]; omega
  obtain ⟨m, hm, hmS, hmk⟩ : ∃ m : Nat, min (S.size : Int) ((k : Int) + (d : Int)) = (m : Int) ∧ m ≤ S.size ∧ k ≤ m := ⟨min S.size (k + d), by omega, by omega, by omega⟩
  have he0 : (S.extract m S.size).size = S.size - m := by rw [ByteArray.size_extract]; omega
  obtain ⟨X2, H2, z2, r2⟩ := str_add X1 (S.extract m S.size) (by omega) (by omega)
  refine wpAnyH_take (i := 11) (v := ?_) rfl (by kernel_rfl) (by kernel_rfl) (by kernel_rfl) (fun _ _ _ h => h) (Or.inl ⟨by rfl, ?_⟩) (by assumption) ?_
  rotate_left
  · (intro W hW; (try dsimp only at hW); go_simp; try with_reducible rfl)
  try simp only [Act.put, List.setIfInBounds_toArray, List.set_cons_zero, List.set_cons_succ, List.getElem_toArray, List.getElem_cons_zero, List.getElem_cons_succ]
  refine wpAnyH_take (i := 12) (v := ?_) rfl (by kernel_rfl) (by kernel_rfl) (by kernel_rfl) (fun _ _ _ h => h) (Or.inl ⟨by rfl, ?_⟩) (by assumption) ?_
  rotate_left
  · (intro W hW; (try dsimp only at hW); go_simp; try with_reducible rfl)
  try simp only [Act.put, List.setIfInBounds_toArray, List.set_cons_zero, List.set_cons_succ, List.getElem_toArray, List.getElem_cons_zero, List.getElem_cons_succ]
  refine wpAnyH_take (i := 13) (v := ?_) rfl (by kernel_rfl) (by kernel_rfl) (by kernel_rfl) (fun _ _ _ h => h) (Or.inl ⟨by rfl, ?_⟩) (by assumption) ?_
  rotate_left
  · (intro W hW; (try dsimp only at hW); go_simp; try with_reducible rfl)
  try simp only [Act.put, List.setIfInBounds_toArray, List.set_cons_zero, List.set_cons_succ, List.getElem_toArray, List.getElem_cons_zero, List.getElem_cons_succ]
  refine wpAnyH_take (i := 14) (v := ?_) rfl (by kernel_rfl) (by kernel_rfl) (by kernel_rfl) (fun _ _ _ h => h) (Or.inl ⟨by rfl, ?_⟩) (by assumption) ?_
  rotate_left
  · (intro W hW; (try dsimp only at hW); go_simp; try with_reducible rfl)
  try simp only [Act.put, List.setIfInBounds_toArray, List.set_cons_zero, List.set_cons_succ, List.getElem_toArray, List.getElem_cons_zero, List.getElem_cons_succ]
  refine wpAnyH_take (i := 15) (v := ?_) rfl (by kernel_rfl) (by kernel_rfl) (by kernel_rfl) (fun _ _ _ h => h) (Or.inl ⟨by rfl, ?_⟩) (by assumption) ?_
  rotate_left
  · (intro W hW; (try dsimp only at hW); go_simp; try with_reducible rfl)
  try simp only [Act.put, List.setIfInBounds_toArray, List.set_cons_zero, List.set_cons_succ, List.getElem_toArray, List.getElem_cons_zero, List.getElem_cons_succ]
  refine wpAnyH_done (by kernel_rfl) ?_ _
  have FE := F03.same F34
  go_wp2_with fail
  go_ret
  exact ⟨X2, rfl, by omega, S4, FE⟩
end Go.Proofs.YtoblhcieidljjaaGreatDoor

/- The sanity check of layer 7's laws. -/
namespace Go.Proofs.YtoblhcieidljjaaGreatDoor
open Go.RowKit

def t34 : Tr := .mk 1 [3, 4] []
theorem plain34 : plainE ⟨3, 1, t34, 0⟩ = 0 := by
  refine plain_mk (by omega) (by omega) (by omega) (by omega) ?_ ?_ ?_
  · decide +kernel
  · simp [t34, Tr.dep, depL]
  · simp [t34, Tr.size, sizeL]
theorem bytes34 (x : Nat) : bs (bytesS ⟨3, 1, t34, x⟩) = ⟨#[100, 32, 51, 32, 49, 32, 49, 32, 111, 102, 32, 40, 51, 44, 32, 52, 41]⟩ := by
  have i : ∀ n : Nat, n < 10 → Lib.itoa (n : Int) = [UInt8.ofNat (48 + n)] := fun n hn => by
    rw [Lib.itoa_nonneg, Lib.decDigits_one hn]
  have i1 := i 1 (by omega)
  have i3 := i 3 (by omega)
  have i4 := i 4 (by omega)
  have hp := plain34
  rw [plain_tag 3 1 t34 0 x] at hp
  unfold bytesS
  rw [if_pos hp]
  simp only [t34, txT, ndW, List.map_cons, List.map_nil, txL, List.append_nil]
  have j1 : Lib.itoa 1 = [49] := i1
  have j3 : Lib.itoa 3 = [51] := i3
  have j4 : Lib.itoa 4 = [52] := i4
  rw [j1, j3, j4]
  rfl
theorem hash0 : hashS (⟨#[]⟩ : ByteArray).data.toList = 14695981039346656037 := rfl
theorem hash1 : hashS (⟨#[97]⟩ : ByteArray).data.toList = 12638187200555641996 := by decide +kernel

set_option maxRecDepth 100000 in
set_option maxHeartbeats 1000000 in
theorem awake7_any (w : World) (hT : Tab w) : Calls Tryz.prog 14 #[] w fun e w' => e = .returned (.bool true) ∧ Fr none w w' := by
  have F0 := (Fr.refl none w).alloc (.cells #[.int .i64 3, .int .i64 4] 3)
  have h0 : TrR (w.alloc (.cells #[.int .i64 3, .int .i64 4] 3)) none (.agg #[.int .i64 1, .slice (some ⟨w.heap.size, 0, none⟩) 2 2, .slice none 0 0]) t34 :=
    TrD.mk_ (by constructor <;> omega) (SlD.lit_dm #[.int .i64 3, .int .i64 4] 3 2 1 rfl (by decide) (by simp) (Fr.refl _ _)) (by intro x hx; simp at hx; constructor <;> omega) (SlD.nil _ _ _) (by simp) (by simp) (by simp [TrsD])
  have T0 := hT.fr F0
  have HP := Lib.hid plain34
  have HB := Lib.hid bytes34
  have H0 := Lib.hid hash0
  have H1 := Lib.hid hash1
  go_enter Tryz.func14, Tryz.ntmps14
  go_wp2_with fail
  refine (sign_any 7 (by omega) 3 1 t34 _ _ none (by constructor <;> omega) (by constructor <;> omega) h0 T0 HP.out).mono ?_
  rintro e w1 ⟨v, rfl, hD, F1⟩
  obtain ⟨th, A1, n1, c1, A2, n2, c2, rfl, hTr, _, _, htg⟩ := hD.shape
  have F01 := F0.pure F1
  simp only at htg ⊢
  obtain ⟨tg, hg⟩ : ∃ tg, tg = tagS 7 (bytesS ⟨3, 1, t34, 0⟩) := ⟨_, rfl⟩
  rw [← hg] at hD htg ⊢
  have HTG := Lib.hid htg
  have h1 : DeD (w1.alloc (.cells #[.int .i64 3, .int .i64 1, .int .i64 th, .slice A1 n1 c1, .slice A2 n2 c2, .int .u64 (tg : Nat)] 45)) (Dm _ none) (.agg #[.int .i64 3, .int .i64 1, .int .i64 th, .slice A1 n1 c1, .slice A2 n2 c2, .int .u64 (tg : Nat)]) ⟨3, 1, t34, tg⟩ :=
    ded_mk (TrD.keep (fr_dm ((Fr.refl none w1).alloc _)) _ _ (TrD.keep (dn_dm (by simp)) _ _ hTr)) (by constructor <;> omega) (by constructor <;> omega) htg
  have T1 := (hT.fr F01).fr ((Fr.refl none w1).alloc (.cells #[.int .i64 3, .int .i64 1, .int .i64 th, .slice A1 n1 c1, .slice A2 n2 c2, .int .u64 (tg : Nat)] 45))
  clear hg htg hD hTr
  go_wp2_with (first | (go_at_call 21; refine (bytes_any ⟨3, 1, t34, tg⟩ _ _ none (by simp [t34, Tr.size, sizeL]) h1 T1).mono ?_; rintro e w2 ⟨S, rfl, hS, hSs, F2⟩; rw [HB.out] at hS; subst hS; clear hSs) | (go_at_call 37; refine (hash_any _ _ (by decide)).mono ?_; rintro e w3 ⟨rfl, F3⟩; first | rw [H0.out] | rw [H1.out]))
  go_ret
  exact ⟨rfl, (((F01.alloc _).pure F2).pure ‹Fr none w2 _›).pure F3⟩
end Go.Proofs.YtoblhcieidljjaaGreatDoor

/- Some texts of this claim, joined: contracts of the functions that it reaches, and plain laws. -/
import Derived.Test.YtonhhnedfjonoaaGreatDoorProg
import Derived.Test.YtonhhnedfjonoaaGreatDoorJM6
import Derived.Test.YtonhhnedfjonoaaGreatDoorJM10
import Derived.Test.YtonhhnedfjonoaaGreatDoorJM29
import Derived.Test.YtonhhnedfjonoaaGreatDoorJM19

set_option linter.unusedSimpArgs false
set_option linter.unusedVariables false
/- Walks: slices.IndexFunc, ContainsFunc at operations, transactions, assets. -/
namespace Go.Proofs.YtonhhnedfjonoaaGreatDoor
open Go.RowKit

theorem idxP_any {α : Type} (p : α → Bool) (l : List α) : decide (0 ≤ idxP p l) = l.any p := by
  rw [Bool.eq_iff_iff, decide_eq_true_iff, List.any_eq_true]
  rcases idxP_cases p l with ⟨h1, h2⟩ | ⟨k, hk, h1, h2, h3⟩
  · rw [h1]
    constructor
    · intro h; omega
    · rintro ⟨x, hx, hp⟩
      have := List.find?_eq_none.1 h2 x hx
      exact absurd hp this
  · rw [h1]
    constructor
    · intro _; exact ⟨l[k], List.getElem_mem hk, h3⟩
    · intro _; omega
set_option maxRecDepth 100000 in
set_option maxHeartbeats 1000000 in
/-- IndexFunc: the first place where p holds. -/
theorem ixA_any (p : Ast → Bool) (f : FuncId) (caps : Array Value) (hrun : ∀ args w, Sem.run Tryz.prog (callFunc f args) w = .ok (.enter f args) w) (l : List Ast) (v : Value) (w : World) (h : SlR astR w none v l)
    (hf : ∀ y ∈ l, ∀ W, Fr none w W → Calls Tryz.prog f (#[.agg (astR.enc y).toArray] ++ caps) W fun e W' => e = .returned (.bool (p y)) ∧ Fr none W W') : Calls Tryz.prog 149 #[v, .func (.func f) #[] caps] w fun e w' => e = .returned (.int .i64 (idxP p l)) ∧ Fr none w w' := by
  obtain ⟨A, c, rfl, q1, q2, hc⟩ := h.open_
  have HC := Lib.hid hc
  have HF := Lib.hid hf
  clear h hc hf
  go_enter Tryz.func149, Tryz.ntmps149
  go_wp2_with fail
  go_loopw [8] (fun s8 wr => ∃ k : Nat, k ≤ l.length ∧ s8 = .int .i64 (k : Int) ∧ Fr none w wr ∧ Hid (∀ j (hj : j < l.length), j < k → p l[j] = false)) (fun s8 _ => l.length - (intOf s8).toNat)
  case atStart => exact ⟨0, Nat.zero_le _, rfl, Fr.refl _ _, Lib.hid (fun j hj h => by omega)⟩
  case round =>
    obtain ⟨k, hk, rfl, F, HN⟩ := hrel
    by_cases hlt : k < l.length
    · obtain ⟨b, off, rfl, hb, _, hcc⟩ := HC.out (by omega)
      have hcc := hcc k hlt
      have HFk := HF.out l[k] (List.getElem_mem hlt)
      obtain ⟨y, hy⟩ : ∃ y, y = l[k] := ⟨_, rfl⟩
      rw [← hy] at hcc HFk
      have HY := Lib.hid hy
      clear hy
      have c0 : World.cell? wr ⟨b, off + k * 2, none⟩ = some (.string (bL y.code)) := F.keep (hcc 0 _ rfl) (by simp)
      have c1 : World.cell? wr ⟨b, off + k * 2 + 1, none⟩ = some (.int .i64 y.iss) := F.keep (hcc 1 _ rfl) (by simp)
      clear hcc
      go_wp2_with fail
      refine (HFk wr F).mono ?_
      rintro e w2 ⟨rfl, F2⟩
      clear HFk c0 c1
      cases hv : p y with
      | false =>
        have HV := Lib.hid hv
        clear hv
        go_wp2_with fail
        go_roundw
        case rel => exact ⟨k + 1, by omega, by go_num, F.pure F2, fun j hj hjk => by
          rcases Nat.lt_or_ge j k with hh | hh
          · exact HN.out j hj hh
          · obtain rfl : j = k := by omega
            rw [← HY.out]; exact HV.out⟩
        case measure => simp [intOf]; omega
      | true =>
        have HV := Lib.hid hv
        clear hv
        have HX : Hid (idxP p l = (k : Int)) := idxP_at hlt (by rw [← HY.out]; exact HV.out) HN.out
        go_wp2_with fail
        go_ret
        exact ⟨by rw [HX.out]; rfl, F.pure F2⟩
    · obtain rfl : k = l.length := by omega
      have HX : Hid (idxP p l = -1) := idxP_none fun j hj => HN.out j hj hj
      go_wp2_with fail
      go_ret
      exact ⟨by rw [HX.out]; rfl, F⟩
set_option maxRecDepth 100000 in
set_option maxHeartbeats 1000000 in
theorem ctA_any (p : Ast → Bool) (f : FuncId) (caps : Array Value) (hrun : ∀ args w, Sem.run Tryz.prog (callFunc f args) w = .ok (.enter f args) w) (l : List Ast) (v : Value) (w : World) (h : SlR astR w none v l)
    (hf : ∀ y ∈ l, ∀ W, Fr none w W → Calls Tryz.prog f (#[.agg (astR.enc y).toArray] ++ caps) W fun e W' => e = .returned (.bool (p y)) ∧ Fr none W W') : Calls Tryz.prog 140 #[v, .func (.func f) #[] caps] w fun e w' => e = .returned (.bool (l.any p)) ∧ Fr none w w' := by
  have HF := Lib.hid hf
  clear hf
  obtain ⟨A, c, hv, q1, q2, _⟩ := h.open_
  subst hv
  go_enter Tryz.func140, Tryz.ntmps140
  go_wp2_with fail
  refine (ixA_any p f caps hrun l _ w h HF.out).mono ?_
  rintro e w2 ⟨rfl, F2⟩
  have HX : Hid (decide (0 ≤ idxP p l) = l.any p) := idxP_any p l
  generalize idxP p l = i at *
  go_wp2_with fail
  go_ret
  exact ⟨ret_bool HX.out, F2⟩
set_option maxRecDepth 100000 in
set_option maxHeartbeats 1000000 in
/-- IndexFunc: the first place where p holds. -/
theorem ixO_any (p : OpX → Bool) (f : FuncId) (caps : Array Value) (hrun : ∀ args w, Sem.run Tryz.prog (callFunc f args) w = .ok (.enter f args) w) (l : List OpX) (v : Value) (w : World) (h : SlR opR w none v l)
    (hf : ∀ y ∈ l, ∀ W, Fr none w W → Calls Tryz.prog f (#[.agg (opR.enc y).toArray] ++ caps) W fun e W' => e = .returned (.bool (p y)) ∧ Fr none W W') : Calls Tryz.prog 92 #[v, .func (.func f) #[] caps] w fun e w' => e = .returned (.int .i64 (idxP p l)) ∧ Fr none w w' := by
  obtain ⟨A, c, rfl, q1, q2, hc⟩ := h.open_
  have HC := Lib.hid hc
  have HF := Lib.hid hf
  clear h hc hf
  go_enter Tryz.func92, Tryz.ntmps92
  go_wp2_with fail
  go_loopw [8] (fun s8 wr => ∃ k : Nat, k ≤ l.length ∧ s8 = .int .i64 (k : Int) ∧ Fr none w wr ∧ Hid (∀ j (hj : j < l.length), j < k → p l[j] = false)) (fun s8 _ => l.length - (intOf s8).toNat)
  case atStart => exact ⟨0, Nat.zero_le _, rfl, Fr.refl _ _, Lib.hid (fun j hj h => by omega)⟩
  case round =>
    obtain ⟨k, hk, rfl, F, HN⟩ := hrel
    by_cases hlt : k < l.length
    · obtain ⟨b, off, rfl, hb, _, hcc⟩ := HC.out (by omega)
      have hcc := hcc k hlt
      have HFk := HF.out l[k] (List.getElem_mem hlt)
      obtain ⟨y, hy⟩ : ∃ y, y = l[k] := ⟨_, rfl⟩
      rw [← hy] at hcc HFk
      have HY := Lib.hid hy
      clear hy
      have c0 : World.cell? wr ⟨b, off + k * 12, none⟩ = some (.int .i64 y.o.kind) := F.keep (hcc 0 _ rfl) (by simp)
      have c1 : World.cell? wr ⟨b, off + k * 12 + 1, none⟩ = some (.int .i64 y.o.to_) := F.keep (hcc 1 _ rfl) (by simp)
      have c2 : World.cell? wr ⟨b, off + k * 12 + 2, none⟩ = some (.int .i64 y.o.amt) := F.keep (hcc 2 _ rfl) (by simp)
      have c3 : World.cell? wr ⟨b, off + k * 12 + 3, none⟩ = some (.int .i64 y.o.lim) := F.keep (hcc 3 _ rfl) (by simp)
      have c4 : World.cell? wr ⟨b, off + k * 12 + 4, none⟩ = some (.string (bL y.o.ast.code)) := F.keep (hcc 4 _ rfl) (by simp)
      have c5 : World.cell? wr ⟨b, off + k * 12 + 5, none⟩ = some (.int .i64 y.o.ast.iss) := F.keep (hcc 5 _ rfl) (by simp)
      have c6 : World.cell? wr ⟨b, off + k * 12 + 6, none⟩ = some (.string (bL y.o.oth.code)) := F.keep (hcc 6 _ rfl) (by simp)
      have c7 : World.cell? wr ⟨b, off + k * 12 + 7, none⟩ = some (.int .i64 y.o.oth.iss) := F.keep (hcc 7 _ rfl) (by simp)
      have c8 : World.cell? wr ⟨b, off + k * 12 + 8, none⟩ = some (.int .i64 y.o.num) := F.keep (hcc 8 _ rfl) (by simp)
      have c9 : World.cell? wr ⟨b, off + k * 12 + 9, none⟩ = some (.int .i64 y.o.den) := F.keep (hcc 9 _ rfl) (by simp)
      have c10 : World.cell? wr ⟨b, off + k * 12 + 10, none⟩ = some (.int .i64 y.o.id) := F.keep (hcc 10 _ rfl) (by simp)
      have c11 : World.cell? wr ⟨b, off + k * 12 + 11, none⟩ = some (.slice y.A y.o.path.length y.c) := F.keep (hcc 11 _ rfl) (by simp)
      clear hcc
      go_wp2_with fail
      refine (HFk wr F).mono ?_
      rintro e w2 ⟨rfl, F2⟩
      clear HFk c0 c1
      cases hv : p y with
      | false =>
        have HV := Lib.hid hv
        clear hv
        go_wp2_with fail
        go_roundw
        case rel => exact ⟨k + 1, by omega, by go_num, F.pure F2, fun j hj hjk => by
          rcases Nat.lt_or_ge j k with hh | hh
          · exact HN.out j hj hh
          · obtain rfl : j = k := by omega
            rw [← HY.out]; exact HV.out⟩
        case measure => simp [intOf]; omega
      | true =>
        have HV := Lib.hid hv
        clear hv
        have HX : Hid (idxP p l = (k : Int)) := idxP_at hlt (by rw [← HY.out]; exact HV.out) HN.out
        go_wp2_with fail
        go_ret
        exact ⟨by rw [HX.out]; rfl, F.pure F2⟩
    · obtain rfl : k = l.length := by omega
      have HX : Hid (idxP p l = -1) := idxP_none fun j hj => HN.out j hj hj
      go_wp2_with fail
      go_ret
      exact ⟨by rw [HX.out]; rfl, F⟩
set_option maxRecDepth 100000 in
set_option maxHeartbeats 1000000 in
theorem ctO_any (p : OpX → Bool) (f : FuncId) (caps : Array Value) (hrun : ∀ args w, Sem.run Tryz.prog (callFunc f args) w = .ok (.enter f args) w) (l : List OpX) (v : Value) (w : World) (h : SlR opR w none v l)
    (hf : ∀ y ∈ l, ∀ W, Fr none w W → Calls Tryz.prog f (#[.agg (opR.enc y).toArray] ++ caps) W fun e W' => e = .returned (.bool (p y)) ∧ Fr none W W') : Calls Tryz.prog 69 #[v, .func (.func f) #[] caps] w fun e w' => e = .returned (.bool (l.any p)) ∧ Fr none w w' := by
  have HF := Lib.hid hf
  clear hf
  obtain ⟨A, c, hv, q1, q2, _⟩ := h.open_
  subst hv
  go_enter Tryz.func69, Tryz.ntmps69
  go_wp2_with fail
  refine (ixO_any p f caps hrun l _ w h HF.out).mono ?_
  rintro e w2 ⟨rfl, F2⟩
  have HX : Hid (decide (0 ≤ idxP p l) = l.any p) := idxP_any p l
  generalize idxP p l = i at *
  go_wp2_with fail
  go_ret
  exact ⟨ret_bool HX.out, F2⟩
set_option maxRecDepth 100000 in
set_option maxHeartbeats 1000000 in
/-- IndexFunc: the first place where p holds. -/
theorem ixT_any (p : TxX → Bool) (f : FuncId) (caps : Array Value) (hrun : ∀ args w, Sem.run Tryz.prog (callFunc f args) w = .ok (.enter f args) w) (l : List TxX) (v : Value) (w : World) (h : SlR txR w none v l)
    (hf : ∀ y ∈ l, ∀ W, Fr none w W → Calls Tryz.prog f (#[.agg (txR.enc y).toArray] ++ caps) W fun e W' => e = .returned (.bool (p y)) ∧ Fr none W W') : Calls Tryz.prog 67 #[v, .func (.func f) #[] caps] w fun e w' => e = .returned (.int .i64 (idxP p l)) ∧ Fr none w w' := by
  obtain ⟨A, c, rfl, q1, q2, hc⟩ := h.open_
  have HC := Lib.hid hc
  have HF := Lib.hid hf
  clear h hc hf
  go_enter Tryz.func67, Tryz.ntmps67
  go_wp2_with fail
  go_loopw [8] (fun s8 wr => ∃ k : Nat, k ≤ l.length ∧ s8 = .int .i64 (k : Int) ∧ Fr none w wr ∧ Hid (∀ j (hj : j < l.length), j < k → p l[j] = false)) (fun s8 _ => l.length - (intOf s8).toNat)
  case atStart => exact ⟨0, Nat.zero_le _, rfl, Fr.refl _ _, Lib.hid (fun j hj h => by omega)⟩
  case round =>
    obtain ⟨k, hk, rfl, F, HN⟩ := hrel
    by_cases hlt : k < l.length
    · obtain ⟨b, off, rfl, hb, _, hcc⟩ := HC.out (by omega)
      have hcc := hcc k hlt
      have HFk := HF.out l[k] (List.getElem_mem hlt)
      obtain ⟨y, hy⟩ : ∃ y, y = l[k] := ⟨_, rfl⟩
      rw [← hy] at hcc HFk
      have HY := Lib.hid hy
      clear hy
      have c0 : World.cell? wr ⟨b, off + k * 4, none⟩ = some (.int .i64 y.src) := F.keep (hcc 0 _ rfl) (by simp)
      have c1 : World.cell? wr ⟨b, off + k * 4 + 1, none⟩ = some (.int .i64 y.seq) := F.keep (hcc 1 _ rfl) (by simp)
      have c2 : World.cell? wr ⟨b, off + k * 4 + 2, none⟩ = some (.int .i64 y.fee) := F.keep (hcc 2 _ rfl) (by simp)
      have c3 : World.cell? wr ⟨b, off + k * 4 + 3, none⟩ = some (.slice y.A y.ops.length y.c) := F.keep (hcc 3 _ rfl) (by simp)
      clear hcc
      go_wp2_with fail
      refine (HFk wr F).mono ?_
      rintro e w2 ⟨rfl, F2⟩
      clear HFk c0 c1
      cases hv : p y with
      | false =>
        have HV := Lib.hid hv
        clear hv
        go_wp2_with fail
        go_roundw
        case rel => exact ⟨k + 1, by omega, by go_num, F.pure F2, fun j hj hjk => by
          rcases Nat.lt_or_ge j k with hh | hh
          · exact HN.out j hj hh
          · obtain rfl : j = k := by omega
            rw [← HY.out]; exact HV.out⟩
        case measure => simp [intOf]; omega
      | true =>
        have HV := Lib.hid hv
        clear hv
        have HX : Hid (idxP p l = (k : Int)) := idxP_at hlt (by rw [← HY.out]; exact HV.out) HN.out
        go_wp2_with fail
        go_ret
        exact ⟨by rw [HX.out]; rfl, F.pure F2⟩
    · obtain rfl : k = l.length := by omega
      have HX : Hid (idxP p l = -1) := idxP_none fun j hj => HN.out j hj hj
      go_wp2_with fail
      go_ret
      exact ⟨by rw [HX.out]; rfl, F⟩
set_option maxRecDepth 100000 in
set_option maxHeartbeats 1000000 in
theorem ctT_any (p : TxX → Bool) (f : FuncId) (caps : Array Value) (hrun : ∀ args w, Sem.run Tryz.prog (callFunc f args) w = .ok (.enter f args) w) (l : List TxX) (v : Value) (w : World) (h : SlR txR w none v l)
    (hf : ∀ y ∈ l, ∀ W, Fr none w W → Calls Tryz.prog f (#[.agg (txR.enc y).toArray] ++ caps) W fun e W' => e = .returned (.bool (p y)) ∧ Fr none W W') : Calls Tryz.prog 42 #[v, .func (.func f) #[] caps] w fun e w' => e = .returned (.bool (l.any p)) ∧ Fr none w w' := by
  have HF := Lib.hid hf
  clear hf
  obtain ⟨A, c, hv, q1, q2, _⟩ := h.open_
  subst hv
  go_enter Tryz.func42, Tryz.ntmps42
  go_wp2_with fail
  refine (ixT_any p f caps hrun l _ w h HF.out).mono ?_
  rintro e w2 ⟨rfl, F2⟩
  have HX : Hid (decide (0 ≤ idxP p l) = l.any p) := idxP_any p l
  generalize idxP p l = i at *
  go_wp2_with fail
  go_ret
  exact ⟨ret_bool HX.out, F2⟩
end Go.Proofs.YtonhhnedfjonoaaGreatDoor

/- Walk: ledger.plain, the fields of an operation that matter. -/
namespace Go.Proofs.YtonhhnedfjonoaaGreatDoor
open Go.RowKit

def opV (o : Opr) (v : Value) : Value := .agg (opL o v).toArray
/-- What plain hands back. -/
def plV (x : OpX) : Value := .tuple #[opV (plO x.o).1 (if x.o.kind = 6 then x.v else .slice none 0 0), .bool (plO x.o).2]
theorem astneq_run (a b : Ast) (w : World) : (if (bL a.code).toList = (bL b.code).toList then if a.iss = b.iss then Result.ok (Next.value (Value.bool false)) w else Result.ok (Next.value (Value.bool true)) w else Result.ok (Next.value (Value.bool true)) w) = Result.ok (Next.value (Value.bool (!decide (a = b)))) w := by
  rw [bL_tl, bL_tl]
  obtain ⟨c, i⟩ := a
  obtain ⟨d, j⟩ := b
  by_cases h1 : c = d <;> by_cases h2 : i = j <;> simp [h1, h2]
theorem plV_1 (x : OpX) (k : x.o.kind = 1) : plV x = .tuple #[opV ⟨x.o.kind, x.o.to_, x.o.amt, 0, nat, nat, 0, 0, 0, []⟩ (.slice none 0 0), .bool (inR x.o.to_ 1 1000 && pos1 x.o.amt)] := by unfold plV plO; rw [if_pos k, if_neg (by omega), k]; rfl
theorem plV_2 (x : OpX) (k : x.o.kind = 2) : plV x = .tuple #[opV ⟨x.o.kind, x.o.to_, x.o.amt, 0, x.o.ast, nat, 0, 0, 0, []⟩ (.slice none 0 0), .bool (inR x.o.to_ 1 1000 && (pos1 x.o.amt && vAst x.o.ast))] := by unfold plV plO; rw [if_neg (by omega), if_pos k, if_neg (by omega), k]; rfl
theorem decneq {α : Type} [DecidableEq α] (a b : α) : decide (a ≠ b) = !decide (a = b) := by by_cases h : a = b <;> simp [h]
theorem plV_3 (x : OpX) (k : x.o.kind = 3) : plV x = .tuple #[opV ⟨x.o.kind, 0, x.o.amt, 0, x.o.ast, nat, 0, 0, 0, []⟩ (.slice none 0 0), .bool (vAmt x.o.amt && (vAst x.o.ast && !decide (x.o.ast = nat)))] := by unfold plV plO; rw [if_neg (by omega), if_neg (by omega), if_pos k, if_neg (by omega), decneq, k]; rfl
theorem plV_4 (x : OpX) (k : x.o.kind = 4) : plV x = .tuple #[opV ⟨x.o.kind, 0, x.o.amt, 0, x.o.ast, x.o.oth, x.o.num, x.o.den, 0, []⟩ (.slice none 0 0), .bool (pos1 x.o.amt && (vAst x.o.ast && (vAst x.o.oth && (!decide (x.o.ast = x.o.oth) && vPrc x.o.num x.o.den))))] := by unfold plV plO; rw [if_neg (by omega), if_neg (by omega), if_neg (by omega), if_pos k, if_neg (by omega), decneq, k]; rfl
theorem plV_5 (x : OpX) (k : x.o.kind = 5) : plV x = .tuple #[opV ⟨x.o.kind, 0, 0, 0, nat, nat, 0, 0, x.o.id, []⟩ (.slice none 0 0), .bool (inR x.o.id 1 1000000)] := by unfold plV plO; rw [if_neg (by omega), if_neg (by omega), if_neg (by omega), if_neg (by omega), if_pos k, if_neg (by omega), k]; rfl
theorem plV_6 (x : OpX) (k : x.o.kind = 6) : plV x = .tuple #[opV ⟨x.o.kind, x.o.to_, x.o.amt, x.o.lim, x.o.ast, x.o.oth, 0, 0, 0, x.o.path⟩ x.v, .bool (inR x.o.to_ 1 1000 && (pos1 x.o.amt && (pos1 x.o.lim && (vAst x.o.ast && (vAst x.o.oth && vPath x.o.path)))))] := by unfold plV plO; rw [if_neg (by omega), if_neg (by omega), if_neg (by omega), if_neg (by omega), if_neg (by omega), if_pos k, if_pos k, k]; rfl
theorem plV_0 (x : OpX) (k : ¬ (x.o.kind = 1) ∧ ¬ (x.o.kind = 2) ∧ ¬ (x.o.kind = 3) ∧ ¬ (x.o.kind = 4) ∧ ¬ (x.o.kind = 5) ∧ ¬ (x.o.kind = 6)) : plV x = .tuple #[opV ⟨x.o.kind, 0, x.o.amt, 0, nat, nat, 0, 0, 0, []⟩ (.slice none 0 0), .bool false] := by
  obtain ⟨k1, k2, k3, k4, k5, k6⟩ := k
  unfold plV plO
  rw [if_neg k1, if_neg k2, if_neg k3, if_neg k4, if_neg k5, if_neg k6, if_neg k6]; rfl
set_option maxRecDepth 100000 in
set_option maxHeartbeats 4000000 in
theorem ppth1_any (a : Ast) (w : World) : Calls Tryz.prog 141 #[.agg #[.string (bL a.code), .int .i64 a.iss]] w fun e w' => e = .returned (.bool (!vAst a)) ∧ Fr none w w' := by
  go_enter Tryz.func141, Tryz.ntmps141
  go_upto_region 1 with (fail)
  generalize hW : w.alloc _ = w1
  have F1 : Fr none w w1 := hW ▸ (Fr.refl none w).alloc _
  have b1 : w1.heap[w.heap.size]? = some (.cells #[.string (bL a.code), .int .i64 a.iss] 36 (0, 0)) := by rw [← hW]; exact blk_new _ _
  clear hW
  have c0 : w1.cell? ⟨w.heap.size, 0, none⟩ = some (.string (bL a.code)) := by rw [blk_cell b1]; rfl
  have c1 : w1.cell? ⟨w.heap.size, 1, none⟩ = some (.int .i64 a.iss) := by rw [blk_cell b1]; rfl
  clear b1
  go_wp2_with fail
  refine (pvast_any a w1).mono ?_
  rintro e w2 ⟨rfl, F2⟩
  go_wp2_with fail
  go_ret
  exact ⟨rfl, F1.pure F2⟩
theorem ppth1_enters : ∀ args w, Sem.run Tryz.prog (callFunc 141 args) w = .ok (.enter 141 args) w := fun _ _ => by kernel_rfl
theorem not_any_all {α : Type} (p : α → Bool) (l : List α) : (!l.any fun a => !p a) = l.all p := by
  induction l with
  | nil => rfl
  | cons a r ih => rw [List.any_cons, List.all_cons, ← ih]; cases p a <;> simp
set_option maxRecDepth 100000 in
theorem ppth_any (l : List Ast) (v : Value) (w : World) (h : SlR astR w none v l) : Calls Tryz.prog 118 #[v] w fun e w' => e = .returned (.bool (vPath l)) ∧ Fr none w w' := by
  obtain ⟨A, c, hv, q1, q2, _⟩ := h.open_
  subst hv
  by_cases hl : l.length ≤ 4
  · have hl' : (l.length : Int) ≤ 4 := by omega
    have HL := Lib.hid hl
    clear hl
    go_enter Tryz.func118, Tryz.ntmps118
    go_wp2_with fail
    refine (ctA_any (fun a => !vAst a) 141 #[] ppth1_enters l _ w h (fun y _ W _ => ppth1_any y W)).mono ?_
    rintro e w2 ⟨rfl, F2⟩
    have HX : Hid ((!l.any fun a => !vAst a) = vPath l) := by unfold Hid vPath; rw [not_any_all, decide_eq_true HL.out, Bool.true_and]
    generalize (l.any fun a => !vAst a) = x at *
    go_wp2_with fail
    go_ret
    exact ⟨ret_bool HX.out, F2⟩
  · have hl' : ¬ (l.length : Int) ≤ 4 := by omega
    have HX : Hid (vPath l = false) := by unfold Hid vPath; rw [decide_eq_false hl, Bool.false_and]
    clear hl
    go_enter Tryz.func118, Tryz.ntmps118
    go_wp2_with fail
    go_ret
    exact ⟨ret_bool HX.out.symm, Fr.refl _ _⟩
/- (the arms' common beginning, for gen_pl.py)
  obtain ⟨o, PA, pc⟩ := x
  dsimp only [OpX.v] at *
  have hx : SlR astR w none (.slice PA o.path.length pc) o.path := hx
  generalize hpv : o.path.length = pn at *
  have HPV := Lib.hid hpv
  clear hpv
  unfold opV
  simp only [opL]
  go_enter Tryz.func93, Tryz.ntmps93
  go_upto_region 1 with (fail)
  obtain ⟨B, hB⟩ : ∃ B, B = w.heap.size := ⟨_, rfl⟩
  rw [← hB]
  generalize hWa : w.alloc _ = wa
  have F1 : Fr none w wa := hWa ▸ (Fr.refl none w).alloc _
  have b1 : OpB wa B o (.slice PA pn pc) := by rw [← hWa, hB]; exact blk_new _ _
  have sa : B + 1 = wa.heap.size := by rw [← hWa, hB]; exact (Array.size_push _).symm
  clear hWa
  generalize hWb : wa.alloc _ = w1
  have F2 : Fr none wa w1 := hWb ▸ (Fr.refl none wa).alloc _
  have b2 : OpB w1 (B + 1) op0 (.slice none 0 0) := by rw [← hWb, sa]; exact blk_new _ _
  have b1 := b1.fr F2 (by simp)
  have sb : B + 2 = w1.heap.size := by rw [← hWb]; simp only [World.size_alloc]; omega
  have hBw : w.heap.size ≤ B := Nat.le_of_eq hB.symm
  clear hWb hB sa
  have SB := Lib.hid sb
  clear sb
  have z0 := OpB.free b1 0
  have z1 := OpB.free b1 1
  have e0 : World.cell? w1 ⟨B, 0, none⟩ = _ := OpB.cell b1 0
  have e1 : World.cell? w1 ⟨B, 1, none⟩ = _ := OpB.cell b1 1
  have e2 : World.cell? w1 ⟨B, 2, none⟩ = _ := OpB.cell b1 2
  have e3 : World.cell? w1 ⟨B, 3, none⟩ = _ := OpB.cell b1 3
  have e4 : World.cell? w1 ⟨B, 4, none⟩ = _ := OpB.cell b1 4
  have e5 : World.cell? w1 ⟨B, 5, none⟩ = _ := OpB.cell b1 5
  have e6 : World.cell? w1 ⟨B, 6, none⟩ = _ := OpB.cell b1 6
  have e7 : World.cell? w1 ⟨B, 7, none⟩ = _ := OpB.cell b1 7
  have e8 : World.cell? w1 ⟨B, 8, none⟩ = _ := OpB.cell b1 8
  have e9 : World.cell? w1 ⟨B, 9, none⟩ = _ := OpB.cell b1 9
  have e10 : World.cell? w1 ⟨B, 10, none⟩ = _ := OpB.cell b1 10
  have e11 : World.cell? w1 ⟨B, 11, none⟩ = _ := OpB.cell b1 11
  have el := OpB.lt b1
  simp only [opL, List.getElem?_cons_zero, List.getElem?_cons_succ] at e0 e1 e2 e3 e4 e5 e6 e7 e8 e9 e10 e11
  go_upto_region 2 with (fail)
  obtain ⟨C, hC⟩ : ∃ C, C = w1.heap.size := ⟨_, rfl⟩
  rw [← hC]
  generalize hWc : w1.alloc _ = w2
  have F3 : Fr none w1 w2 := hWc ▸ (Fr.refl none w1).alloc _
  have b3 : OpB w2 C ⟨o.kind, 0, o.amt, 0, nat, nat, 0, 0, 0, []⟩ (.slice none 0 0) := by rw [← hWc, hC]; exact blk_new _ _
  have hCB : B + 1 < C := by rw [hC]; have := SB.out; omega
  have b1 := b1.fr F3 (by simp)
  have hR := b2.fr F3 (by simp)
  have FF : Fr none w w2 := (F1.pure F2).pure F3
  have hBR : w.heap.size ≤ B + 1 := by omega
  have hCw : w.heap.size ≤ C := by omega
  have n1 : some C ≠ some B := fun e => by have := Option.some.inj e; omega
  have n2 : some C ≠ some (B + 1) := fun e => by have := Option.some.inj e; omega
  clear hWc hC z0 z1 e0 e1 e2 e3 e4 e5 e6 e7 e8 e9 e10 e11 el SB F1 F2 F3 b2
  have z0 := OpB.free b1 0
  have z1 := OpB.free b1 1
  have e0 : World.cell? w2 ⟨B, 0, none⟩ = _ := OpB.cell b1 0
  have e1 : World.cell? w2 ⟨B, 1, none⟩ = _ := OpB.cell b1 1
  have e2 : World.cell? w2 ⟨B, 2, none⟩ = _ := OpB.cell b1 2
  have e3 : World.cell? w2 ⟨B, 3, none⟩ = _ := OpB.cell b1 3
  have e4 : World.cell? w2 ⟨B, 4, none⟩ = _ := OpB.cell b1 4
  have e5 : World.cell? w2 ⟨B, 5, none⟩ = _ := OpB.cell b1 5
  have e6 : World.cell? w2 ⟨B, 6, none⟩ = _ := OpB.cell b1 6
  have e7 : World.cell? w2 ⟨B, 7, none⟩ = _ := OpB.cell b1 7
  have e8 : World.cell? w2 ⟨B, 8, none⟩ = _ := OpB.cell b1 8
  have e9 : World.cell? w2 ⟨B, 9, none⟩ = _ := OpB.cell b1 9
  have e10 : World.cell? w2 ⟨B, 10, none⟩ = _ := OpB.cell b1 10
  have e11 : World.cell? w2 ⟨B, 11, none⟩ = _ := OpB.cell b1 11
  have el := OpB.lt b1
  simp only [opL, List.getElem?_cons_zero, List.getElem?_cons_succ] at e0 e1 e2 e3 e4 e5 e6 e7 e8 e9 e10 e11
  go_wp2_with fail
  refine (among_any o.to_ 1 1000 w2).mono ?_
  rintro e w3 ⟨rfl, rfl⟩
  have hl := b3.lt
  -- ARMS
-/
end Go.Proofs.YtonhhnedfjonoaaGreatDoor

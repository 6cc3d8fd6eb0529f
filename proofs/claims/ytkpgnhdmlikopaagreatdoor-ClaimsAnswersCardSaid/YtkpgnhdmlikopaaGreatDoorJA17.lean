/- Some texts of this claim, joined: contracts of the functions that it reaches, and plain laws. -/
import Derived.Test.YtkpgnhdmlikopaaGreatDoorJA12
import Derived.Lib.AtoiAll
import Derived.Shelf.Strings.FieldsAny

set_option linter.unusedSimpArgs false
set_option linter.unusedVariables false
/- Plain: the program's reading of a text of claims. -/
namespace Go.Proofs.YtkpgnhdmlikopaaGreatDoor

def rdN (w : List UInt8) : Option Int := match Lib.atoiAll w with
  | .ok n => some n
  | _ => none
/-- A claim's word, read. -/
def rdW (w : List UInt8) : Option Cl := match rdN (Lib.cut w [61]).1, rdN (Lib.cut w [61]).2.1 with
  | some a, some b => some (a, b)
  | _, _ => none
def rdS (acc : Option (List Cl)) (w : List UInt8) : Option (List Cl) := match acc, rdW w with
  | some l, some c => some (l ++ [c])
  | _, _ => none
def rdAll (ws : List (List UInt8)) : Option (List Cl) := ws.foldl rdS (some [])
theorem rdAll_snoc (ws : List (List UInt8)) (w : List UInt8) : rdAll (ws ++ [w]) = rdS (rdAll ws) w := by unfold rdAll; rw [List.foldl_append]; rfl
theorem rdS_none (ws : List (List UInt8)) : ws.foldl rdS none = none := by
  induction ws with
  | nil => rfl
  | cons w r ih => rw [List.foldl_cons]; exact ih
theorem rdAll_bad (ws : List (List UInt8)) (j : Nat) (hj : j < ws.length) (h : rdW ws[j] = none) : rdAll ws = none := by
  have e : ws = ws.take j ++ ws[j] :: ws.drop (j + 1) := by rw [← List.drop_eq_getElem_cons hj, List.take_append_drop]
  unfold rdAll
  rw [e, List.foldl_append, List.foldl_cons]
  have : ∀ acc, rdS acc ws[j] = none := fun acc => by
    unfold rdS; rw [h]
    cases acc <;> rfl
  rw [this]
  exact rdS_none _
theorem rdAll_len (ws : List (List UInt8)) (l : List Cl) (h : rdAll ws = some l) : l.length = ws.length := by
  suffices H : ∀ (ws : List (List UInt8)) (a l : List Cl), ws.foldl rdS (some a) = some l → l.length = a.length + ws.length by
    have := H ws [] l h; simpa using this
  intro ws
  induction ws with
  | nil => intro a l h; injection h with h; rw [h]; simp
  | cons w r ih =>
    intro a l h
    rw [List.foldl_cons] at h
    cases hw : rdW w with
    | none =>
      have : rdS (some a) w = none := by unfold rdS; rw [hw]
      rw [this, rdS_none] at h; cases h
    | some c =>
      have : rdS (some a) w = some (a ++ [c]) := by unfold rdS; rw [hw]
      rw [this] at h
      have := ih _ _ h
      simp at this ⊢
      omega
/-- What the program's Parse answers. -/
def prgC (t : List UInt8) : List Cl × Int := if 6000 < t.length then ([], 3) else match rdAll (Lib.fieldsD t) with
  | none => ([], 2)
  | some out => if plnC out = true ∧ textC out = t then (out, 0) else ([], 2)

theorem fieldsGo_word : ∀ (w cur rest : List UInt8), (∀ c ∈ w, Lib.isSp c = false) → Lib.fieldsGo cur (w ++ rest) = Lib.fieldsGo (cur ++ w) rest
  | [], cur, rest, _ => by simp
  | c :: w, cur, rest, h => by
    rw [List.cons_append, Lib.fieldsGo, if_neg (by rw [h c (by simp)]; simp), fieldsGo_word w _ rest (fun d hd => h d (List.mem_cons_of_mem _ hd))]
    simp
theorem fields_join : ∀ ws : List (List UInt8), (∀ w ∈ ws, w ≠ [] ∧ ∀ c ∈ w, Lib.isSp c = false) → Lib.fields (Lib.join ws [32]) = ws
  | [], _ => by simp [Lib.join_nil, Lib.fields, Lib.fieldsGo]
  | [x], h => by
    have hx := h x (by simp)
    have := fieldsGo_word x [] [] hx.2
    rw [List.append_nil, List.nil_append] at this
    rw [Lib.join_one, Lib.fields, this, Lib.fieldsGo, if_neg]
    cases x with
    | nil => exact absurd rfl hx.1
    | cons c r => simp
  | x :: y :: r, h => by
    have hx := h x (by simp)
    have ih := fields_join (y :: r) (fun z hz => h z (List.mem_cons_of_mem _ hz))
    rw [join_cons2, Lib.fields, fieldsGo_word x [] _ hx.2, List.nil_append, Lib.fieldsGo, if_pos (by decide), if_neg]
    · unfold Lib.fields at ih
      rw [ih]
    · cases x with
      | nil => exact absurd rfl hx.1
      | cons c r => simp
theorem wrd_rd : ∀ k : Fin 128, rdW (wrdC (clOf k.val)) = some (clOf k.val) ∧ (∀ c ∈ wrdC (clOf k.val), Lib.isSp c = false) ∧ (∀ c ∈ wrdC (clOf k.val), c.toNat < 128) := by decide +kernel
theorem fields_text (l : List Cl) : Lib.fieldsD (textC l) = (srtC l).map wrdC := by
  have hw : ∀ w ∈ (srtC l).map wrdC, (w ≠ [] ∧ ∀ c ∈ w, Lib.isSp c = false) ∧ ∀ c ∈ w, c.toNat < 128 := fun w hw => by
    obtain ⟨d, hd, rfl⟩ := List.mem_map.1 hw
    have hv := srt_valid hd
    obtain ⟨k, rfl⟩ := clOf_of hv
    refine ⟨⟨?_, (wrd_rd k).2.1⟩, (wrd_rd k).2.2⟩
    have := (wrd_facts k).2.1
    intro e
    rw [e] at this; simp at this
  have ha : ∀ b ∈ textC l, b.toNat < 128 := by
    unfold textC
    have : ∀ ws : List (List UInt8), (∀ w ∈ ws, ∀ c ∈ w, c.toNat < 128) → ∀ b ∈ Lib.join ws [32], b.toNat < 128 := by
      intro ws
      induction ws with
      | nil => intro _ b hb; rw [Lib.join_nil] at hb; cases hb
      | cons x r ih =>
        intro h b hb
        cases r with
        | nil => rw [Lib.join_one] at hb; exact h x (by simp) b hb
        | cons y r =>
          rw [join_cons2, List.mem_append, List.mem_cons] at hb
          rcases hb with hb | rfl | hb
          · exact h x (by simp) b hb
          · decide
          · exact ih (fun z hz => h z (List.mem_cons_of_mem _ hz)) b hb
    exact this _ (fun w h => (hw w h).2)
  rw [Lib.fieldsD_ascii _ ha]
  unfold textC
  exact fields_join _ (fun w h => (hw w h).1)
theorem rdAll_words : ∀ (l a : List Cl), (∀ c ∈ l, vCl c = true) → (l.map wrdC).foldl rdS (some a) = some (a ++ l)
  | [], a, _ => by simp
  | c :: r, a, h => by
    have hc : rdW (wrdC c) = some c := by
      obtain ⟨k, rfl⟩ := clOf_of (h c (by simp))
      exact (wrd_rd k).1
    rw [List.map_cons, List.foldl_cons]
    have : rdS (some a) (wrdC c) = some (a ++ [c]) := by unfold rdS; rw [hc]
    rw [this, rdAll_words r _ (fun d hd => h d (List.mem_cons_of_mem _ hd))]
    simp
theorem prg_par (t : List UInt8) : prgC t = parC t := by
  unfold prgC parC
  split
  · rfl
  · by_cases h : textC (refC t) = t
    · rw [if_pos h]
      have e : Lib.fieldsD t = (refC t).map wrdC := by
        conv => lhs; rw [← h]
        rw [fields_text, refC_plain]
      have hv : ∀ c ∈ refC t, vCl c = true := fun c hc => by rw [← refC_plain] at hc; exact srt_valid hc
      have e2 : rdAll (Lib.fieldsD t) = some (refC t) := by
        rw [e]; unfold rdAll
        rw [rdAll_words _ _ hv]; simp
      rw [e2]
      simp only
      rw [if_pos ⟨by unfold plnC; rw [decide_eq_true_iff]; exact refC_plain t, h⟩]
    · rw [if_neg h]
      cases e : rdAll (Lib.fieldsD t) with
      | none => rfl
      | some out =>
        simp only
        rw [if_neg]
        rintro ⟨h1, h2⟩
        apply h
        have h3 : srtC out = out := by unfold plnC at h1; exact of_decide_eq_true h1
        have : refC t = out := by rw [← h2, refC_text, h3]
        rw [this, h2]
end Go.Proofs.YtkpgnhdmlikopaaGreatDoor

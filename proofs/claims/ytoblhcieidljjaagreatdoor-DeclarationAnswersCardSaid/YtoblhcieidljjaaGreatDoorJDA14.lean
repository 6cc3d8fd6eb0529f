/- Some texts of this claim, joined: contracts of the functions that it reaches, and plain laws. -/

set_option linter.unusedSimpArgs false
set_option linter.unusedVariables false
/- Plain: hexadecimal digits of numbers. -/
namespace Go.Proofs.YtoblhcieidljjaaGreatDoor

def hexD (k : Nat) : UInt8 := if k < 10 then UInt8.ofNat (48 + k) else UInt8.ofNat (87 + k)
def hexV (c : UInt8) : Nat := if c.toNat ≤ 57 then c.toNat - 48 else c.toNat - 87
/-- m hexadecimal digits. -/
def hexL : Nat → Nat → List UInt8
  | 0, _ => []
  | m + 1, n => hexL m (n / 16) ++ [hexD (n % 16)]
theorem hexL_len : ∀ m n, (hexL m n).length = m
  | 0, _ => rfl
  | m + 1, n => by simp [hexL, hexL_len m]
def hexF (a : Nat) (l : List UInt8) : Nat := l.foldl (fun a c => 16 * a + hexV c) a
theorem hexF_snoc (a : Nat) (l : List UInt8) (c : UInt8) : hexF a (l ++ [c]) = 16 * hexF a l + hexV c := by simp [hexF]
theorem hexF_app (a : Nat) (l m : List UInt8) : hexF a (l ++ m) = hexF (hexF a l) m := by simp [hexF]
theorem hexD_fin : ∀ k : Fin 16, hexV (hexD k.val) = k.val ∧ ((48 ≤ (hexD k.val).toNat ∧ (hexD k.val).toNat ≤ 57) ∨ (97 ≤ (hexD k.val).toNat ∧ (hexD k.val).toNat ≤ 102)) := by decide
theorem hexV_D {k : Nat} (h : k < 16) : hexV (hexD k) = k := (hexD_fin ⟨k, h⟩).1
/-- A digit, in small letters. -/
def IsHx (c : UInt8) : Prop := (48 ≤ c.toNat ∧ c.toNat ≤ 57) ∨ (97 ≤ c.toNat ∧ c.toNat ≤ 102)
theorem hexD_hx {k : Nat} (h : k < 16) : IsHx (hexD k) := (hexD_fin ⟨k, h⟩).2
theorem hexL_hx : ∀ m n, ∀ c ∈ hexL m n, IsHx c
  | 0, _, c, h => by simp [hexL] at h
  | m + 1, n, c, h => by
    simp only [hexL, List.mem_append, List.mem_singleton] at h
    rcases h with h | rfl
    · exact hexL_hx m _ c h
    · exact hexD_hx (Nat.mod_lt _ (by omega))
theorem hexV_lt {c : UInt8} (h : IsHx c) : hexV c < 16 := by
  unfold IsHx at h
  unfold hexV
  split <;> omega
theorem hexF_L : ∀ m n, hexF 0 (hexL m n) = n % 16 ^ m
  | 0, n => by simp [hexL, hexF, Nat.mod_one]
  | m + 1, n => by
    rw [hexL, hexF_snoc, hexF_L m, hexV_D (Nat.mod_lt _ (by omega)), Nat.pow_succ, Nat.mul_comm (16 ^ m) 16, Nat.mod_mul]
    omega
theorem hexF_lt : ∀ (l : List UInt8) (a : Nat), (∀ c ∈ l, IsHx c) → hexF a l < (a + 1) * 16 ^ l.length
  | [], a, _ => by simp [hexF]
  | c :: r, a, h => by
    have h1 := hexV_lt (h c (by simp))
    have h2 := hexF_lt r (16 * a + hexV c) (fun x hx => h x (by simp [hx]))
    have e : hexF a (c :: r) = hexF (16 * a + hexV c) r := rfl
    rw [e, List.length_cons, Nat.pow_succ]
    have h3 : (16 * a + hexV c + 1) * 16 ^ r.length ≤ (a + 1) * (16 ^ r.length * 16) := by
      rw [Nat.mul_comm (16 ^ r.length) 16, ← Nat.mul_assoc]
      exact Nat.mul_le_mul_right _ (by omega)
    omega
theorem hexL_zero : ∀ m, hexL m 0 = List.replicate m 48
  | 0 => rfl
  | m + 1 => by
    rw [hexL, Nat.zero_div, hexL_zero m, List.replicate_succ']
    rfl
theorem hexL_pad (k : Nat) : ∀ m n, n < 16 ^ m → hexL (k + m) n = List.replicate k 48 ++ hexL m n
  | 0, n, h => by
    have : n = 0 := by simpa using h
    subst this
    simp [hexL_zero, hexL]
  | m + 1, n, h => by
    rw [← Nat.add_assoc, hexL, hexL_pad k m (n / 16) (by rw [Nat.pow_succ] at h; omega), hexL, List.append_assoc]
theorem hexL_blank (m n : Nat) : ∀ c ∈ hexL m n, c ≠ 32 := fun c hc e => by
  have := hexL_hx m n c hc
  subst e
  unfold IsHx at this
  simp at this
/-- The digits from the place m - j on: what j rounds have written. -/
theorem hexL_split (j : Nat) : ∀ i n, hexL (i + j) n = hexL i (n / 16 ^ j) ++ hexL j n := by
  induction j with
  | zero => intro i n; simp [hexL]
  | succ j ih =>
    intro i n
    rw [← Nat.add_assoc, hexL, ih, hexL, List.append_assoc, Nat.div_div_eq_div_mul, Nat.pow_succ, Nat.mul_comm 16]
theorem hexL_cons (j n : Nat) : hexL (1 + j) n = hexD (n / 16 ^ j % 16) :: hexL j n := by
  rw [hexL_split j 1 n]; simp [hexL]
end Go.Proofs.YtoblhcieidljjaaGreatDoor

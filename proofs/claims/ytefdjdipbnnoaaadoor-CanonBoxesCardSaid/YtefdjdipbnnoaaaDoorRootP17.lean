/-
  Plain: whole square roots; a root that is built bit by bit. No program.
-/
import Derived.Test.YtefdjdipbnnoaaaDoorGeo17
namespace Go.Proofs.YtefdjdipbnnoaaaDoor
set_option linter.unusedVariables false

/-- The floor of the square root. -/
def isq : Nat → Nat
  | 0 => 0
  | n + 1 => if (isq n + 1) * (isq n + 1) ≤ n + 1 then isq n + 1 else isq n
theorem isq_spec : ∀ n, isq n * isq n ≤ n ∧ n < (isq n + 1) * (isq n + 1)
  | 0 => by decide
  | n + 1 => by
    obtain ⟨h1, h2⟩ := isq_spec n
    unfold isq
    split
    · rename_i h
      refine ⟨h, ?_⟩
      have e : (isq n + 1 + 1) * (isq n + 1 + 1) = (isq n + 1) * (isq n + 1) + 2 * (isq n + 1) + 1 := by rw [Nat.add_mul (isq n + 1) 1, Nat.mul_add]; omega
      omega
    · rename_i h
      exact ⟨by omega, by omega⟩
theorem isq_unique {n r : Nat} (h1 : r * r ≤ n) (h2 : n < (r + 1) * (r + 1)) : r = isq n := by
  obtain ⟨g1, g2⟩ := isq_spec n
  rcases Nat.lt_trichotomy r (isq n) with h | h | h
  · have := Nat.mul_self_le_mul_self (show r + 1 ≤ isq n by omega); omega
  · exact h
  · have := Nat.mul_self_le_mul_self (show isq n + 1 ≤ r by omega); omega
theorem isq_lt {n B : Nat} (h : n < B * B) : isq n < B := by
  obtain ⟨g1, _⟩ := isq_spec n
  rcases Nat.lt_or_ge (isq n) B with h' | h'
  · exact h'
  · have := Nat.mul_self_le_mul_self h'; omega
/-- The square root, rounded up. -/
def upR (n : Nat) : Nat := if isq n * isq n = n then isq n else isq n + 1
theorem upR_le {n B : Nat} (h : n < B * B) : upR n ≤ B := by
  have := isq_lt h
  unfold upR
  split <;> omega
/-- A bit is set in a number that has only higher ones. -/
theorem or_bit {r i : Nat} (h : r % 2 ^ (i + 1) = 0) : r ||| 2 ^ i = r + 2 ^ i := by
  obtain ⟨a, rfl⟩ := Nat.dvd_of_mod_eq_zero h
  rw [← Nat.two_pow_add_eq_or_of_lt (show 2 ^ i < 2 ^ (i + 1) from Nat.pow_lt_pow_right (by omega) (by omega))]
/-- The state of a root behind the bits above i. -/
structure RootAt (P n r i : Nat) : Prop where
  low : r * r ≤ n
  high : n < (r + 2 ^ i) * (r + 2 ^ i)
  mod : r % 2 ^ i = 0
  top : r + 2 ^ i ≤ P
theorem RootAt.take {P n r i : Nat} (h : RootAt P n r (i + 1)) (hle : (r + 2 ^ i) * (r + 2 ^ i) ≤ n) : RootAt P n (r + 2 ^ i) i := by
  have e : r + 2 ^ i + 2 ^ i = r + 2 ^ (i + 1) := by rw [Nat.pow_succ]; omega
  refine ⟨hle, by rw [e]; exact h.high, ?_, by rw [e]; exact h.top⟩
  have h2 : r % 2 ^ i = 0 := by
    obtain ⟨a, ha⟩ := Nat.dvd_of_mod_eq_zero h.mod
    rw [ha, Nat.pow_succ, Nat.mul_assoc]
    exact Nat.mul_mod_right _ _
  rw [Nat.add_mod_right]
  exact h2
theorem RootAt.skip {P n r i : Nat} (h : RootAt P n r (i + 1)) (hgt : ¬ (r + 2 ^ i) * (r + 2 ^ i) ≤ n) : RootAt P n r i := by
  refine ⟨h.low, by omega, ?_, ?_⟩
  · obtain ⟨a, ha⟩ := Nat.dvd_of_mod_eq_zero h.mod
    rw [ha, Nat.pow_succ, Nat.mul_assoc]
    exact Nat.mul_mod_right _ _
  · have := h.top; rw [Nat.pow_succ] at this; omega
theorem RootAt.done {P n r : Nat} (h : RootAt P n r 0) : r = isq n := isq_unique h.low h.high
theorem RootAt.start {P n i : Nat} (h : n < 2 ^ i * 2 ^ i) (hP : 2 ^ i ≤ P) : RootAt P n 0 i := ⟨by omega, by simpa using h, by simp, by simpa using hP⟩
end Go.Proofs.YtefdjdipbnnoaaaDoor

/-
  The sizes of rings, plainly. No program is named in it.
-/
import Derived.Test.YtnbfhdapdlpgiaaBase
namespace Go.Proofs.Ytnbfhdapdlpgiaa
open Go Go.RowKit
set_option linter.unusedVariables false

/-- How many rings there are. -/
def rgN (size step : Int) : Nat := ((size - 1) / step + 1).toNat
/-- Ring number k. -/
def ring (size step : Int) (k : Nat) : Int := if k + 1 < rgN size step then ((k : Int) + 1) * step else size
def ringsL (size step : Int) : List Int := (List.range (rgN size step)).map (ring size step)
theorem ringsL_len (size step : Int) : (ringsL size step).length = rgN size step := by simp [ringsL]
theorem ringsL_at {size step : Int} {k : Nat} (h : k < rgN size step) : (ringsL size step)[k]? = some (ring size step k) := by simp [ringsL, h]
theorem ringsL_take_succ (size step : Int) (k : Nat) (h : k < rgN size step) : (ringsL size step).take (k + 1) = (ringsL size step).take k ++ [ring size step k] := by
  rw [List.take_succ_eq_append_getElem (by rw [ringsL_len]; exact h)]
  congr 1
  simp [ringsL]
theorem rgN_pos {size step : Int} (h1 : 1 ≤ size) (h2 : 1 ≤ step) : 1 ≤ rgN size step := by
  unfold rgN
  have := Int.ediv_nonneg (show 0 ≤ size - 1 by omega) (show 0 ≤ step by omega)
  omega
theorem rgN_cast {size step : Int} (h1 : 1 ≤ size) (h2 : 1 ≤ step) : (rgN size step : Int) = (size - 1) / step + 1 := by
  unfold rgN
  have := Int.ediv_nonneg (show 0 ≤ size - 1 by omega) (show 0 ≤ step by omega)
  omega
/-- A ring that is not the last one lies below the size. -/
theorem mul_lt {size step : Int} {k : Nat} (h1 : 1 ≤ size) (h2 : 1 ≤ step) (h : k + 1 < rgN size step) : ((k : Int) + 1) * step < size ∧ step ≤ ((k : Int) + 1) * step := by
  have hc := rgN_cast h1 h2
  have hk : (k : Int) + 1 ≤ (size - 1) / step := by omega
  have h3 := (Int.le_ediv_iff_mul_le (show 0 < step by omega)).1 hk
  have h4 : 1 * step ≤ ((k : Int) + 1) * step := Int.mul_le_mul_of_nonneg_right (by omega) (by omega)
  omega
/-- Behind the last one but one no more than a step is left. -/
theorem mul_ge {size step : Int} {k : Nat} (h1 : 1 ≤ size) (h2 : 1 ≤ step) (h : rgN size step ≤ k + 1) : size ≤ ((k : Int) + 1) * step := by
  have hc := rgN_cast h1 h2
  have hk : (size - 1) / step < (k : Int) + 1 := by omega
  have h3 := (Int.ediv_lt_iff_lt_mul (show 0 < step by omega)).1 hk
  omega
theorem ring_last {size step : Int} {k : Nat} (h : k + 1 = rgN size step) : ring size step k = size := by unfold ring; rw [if_neg (by omega)]
theorem ring_mid {size step : Int} {k : Nat} (h : k + 1 < rgN size step) : ring size step k = ((k : Int) + 1) * step := by unfold ring; rw [if_pos h]
theorem ring_bd {size step : Int} {k : Nat} (h1 : 1 ≤ size) (h2 : 1 ≤ step) (h : k < rgN size step) : 1 ≤ ring size step k ∧ ring size step k ≤ size := by
  by_cases e : k + 1 < rgN size step
  · have := mul_lt h1 h2 e
    rw [ring_mid e]; omega
  · rw [ring_last (by omega)]; omega
theorem ring_le {size step : Int} {k : Nat} (h1 : 1 ≤ size) (h2 : 1 ≤ step) (h : k + 1 < rgN size step) : ring size step (k + 1) - ring size step k ≤ step ∧ ring size step k < ring size step (k + 1) ∧ (k + 2 < rgN size step → ring size step (k + 1) - ring size step k = step) := by
  have e0 := ring_mid h
  have h3 := mul_lt h1 h2 h
  by_cases e : k + 2 < rgN size step
  · have e1 := ring_mid (k := k + 1) e
    rw [e0, e1]
    have : (((k + 1 : Nat) : Int) + 1) * step = ((k : Int) + 1) * step + step := by rw [Int.add_mul]; push_cast; omega
    omega
  · have e1 := ring_last (k := k + 1) (by omega : k + 1 + 1 = rgN size step)
    have h4 := mul_ge (k := k + 1) h1 h2 (by omega)
    have : (((k + 1 : Nat) : Int) + 1) * step = ((k : Int) + 1) * step + step := by rw [Int.add_mul]; push_cast; omega
    rw [e0, e1]
    omega
theorem ring_first {size step : Int} (h1 : 1 ≤ size) (h2 : 1 ≤ step) : ring size step 0 ≤ step := by
  by_cases e : 1 < rgN size step
  · rw [ring_mid (k := 0) (by omega)]; simp
  · have h3 := mul_ge (k := 0) h1 h2 (by omega)
    rw [ring_last (k := 0) (by have := rgN_pos h1 h2; omega)]
    simp at h3; omega
theorem rgN_le {size step : Int} {m : Nat} (h1 : 1 ≤ size) (h2 : 1 ≤ step) (h : size ≤ (m : Int) * step) : rgN size step ≤ m := by
  have hc := rgN_cast h1 h2
  have : (size - 1) / step < (m : Int) := (Int.ediv_lt_iff_lt_mul (show 0 < step by omega)).2 (by omega)
  omega
end Go.Proofs.Ytnbfhdapdlpgiaa

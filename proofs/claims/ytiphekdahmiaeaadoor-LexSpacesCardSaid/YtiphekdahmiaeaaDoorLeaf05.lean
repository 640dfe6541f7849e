/-
  digit, numeric, part, sign: which bytes belong to a number or are a sign. Any byte.
-/
import Derived.Test.YtiphekdahmiaeaaDoorLex05
import Derived.Test.YtiphekdahmiaeaaDoorBuild
import Derived.Test.YtiphekdahmiaeaaDoorChecked
namespace Go.Proofs.YtiphekdahmiaeaaDoor
open Go Go.RowKit
set_option linter.unusedVariables false

theorem digB_eq {c : Int} (h1 : 48 ≤ c) : digB c = decide (c ≤ 57) := by unfold digB; simp [h1]
theorem digB_lo {c : Int} (h1 : ¬ 48 ≤ c) : digB c = false := by unfold digB; simp [h1]
theorem fdigit_any (c : Int) (w : World) : Calls Tryd.prog 42 #[.int .u8 c] w fun e w' => e = .returned (.bool (digB c)) ∧ w = w' := by
  by_cases h1 : 48 ≤ c
  · rw [digB_eq h1]
    have d1 : decide (48 ≤ c) = true := by simpa using h1
    go_enter Tryd.func42, Tryd.ntmps42
    go_wp2
    go_ret
    exact ⟨rfl, rfl⟩
  · rw [digB_lo h1]
    have d1 : decide (48 ≤ c) = false := by simpa using h1
    go_enter Tryd.func42, Tryd.ntmps42
    go_wp2
    go_ret
    exact ⟨rfl, rfl⟩
theorem rdigit_any (c : Int) (w : World) : Calls Tryd.prog 40 #[.int .u8 c] w fun e w' => e = .returned (.bool (digB c)) ∧ w = w' := by
  by_cases h1 : 48 ≤ c
  · rw [digB_eq h1]
    have d1 : decide (48 ≤ c) = true := by simpa using h1
    go_enter Tryd.func40, Tryd.ntmps40
    go_wp2
    go_ret
    exact ⟨rfl, rfl⟩
  · rw [digB_lo h1]
    have d1 : decide (48 ≤ c) = false := by simpa using h1
    go_enter Tryd.func40, Tryd.ntmps40
    go_wp2
    go_ret
    exact ⟨rfl, rfl⟩
theorem numB_dig {c : Int} (h : digB c = true) : numB c = true := by unfold numB; rw [h]; rfl
theorem numB_no {c : Int} (h : digB c = false) : numB c = (c == 46) := by
  unfold numB; rw [h, Bool.false_or]
  by_cases e : c = 46
  · subst e; rfl
  · simp [e]
theorem numeric_any (c : Int) (w : World) : Calls Tryd.prog 27 #[.int .u8 c] w fun e w' => e = .returned (.bool (numB c)) ∧ w = w' := by
  by_cases h1 : 48 ≤ c
  · have d1 : decide (48 ≤ c) = true := by simpa using h1
    by_cases h2 : c ≤ 57
    · rw [numB_dig (by rw [digB_eq h1]; simpa using h2)]
      have d2 : decide (c ≤ 57) = true := by simpa using h2
      go_enter Tryd.func27, Tryd.ntmps27
      go_wp2
      go_ret
      exact ⟨rfl, rfl⟩
    · rw [numB_no (by rw [digB_eq h1]; simpa using h2)]
      have d2 : decide (c ≤ 57) = false := by simpa using h2
      go_enter Tryd.func27, Tryd.ntmps27
      go_wp2
      go_ret
      exact ⟨rfl, rfl⟩
  · rw [numB_no (digB_lo h1)]
    have d1 : decide (48 ≤ c) = false := by simpa using h1
    go_enter Tryd.func27, Tryd.ntmps27
    go_wp2
    go_ret
    exact ⟨rfl, rfl⟩
theorem part_any (c : Int) (w : World) : Calls Tryd.prog 30 #[.int .u8 c] w fun e w' => e = .returned (.bool (numB c)) ∧ w = w' := by
  by_cases h1 : 48 ≤ c
  · have d1 : decide (48 ≤ c) = true := by simpa using h1
    by_cases h2 : c ≤ 57
    · rw [numB_dig (by rw [digB_eq h1]; simpa using h2)]
      have d2 : decide (c ≤ 57) = true := by simpa using h2
      go_enter Tryd.func30, Tryd.ntmps30
      go_wp2
      go_ret
      exact ⟨rfl, rfl⟩
    · rw [numB_no (by rw [digB_eq h1]; simpa using h2)]
      have d2 : decide (c ≤ 57) = false := by simpa using h2
      go_enter Tryd.func30, Tryd.ntmps30
      go_wp2
      go_ret
      exact ⟨rfl, rfl⟩
  · rw [numB_no (digB_lo h1)]
    have d1 : decide (48 ≤ c) = false := by simpa using h1
    go_enter Tryd.func30, Tryd.ntmps30
    go_wp2
    go_ret
    exact ⟨rfl, rfl⟩
theorem sign_any (c : Int) (w : World) : Calls Tryd.prog 33 #[.int .u8 c] w fun e w' => e = .returned (.bool (sgnB c)) ∧ w = w' := by
  by_cases h : c = 43 ∨ c = 45 ∨ c = 42 ∨ c = 47 ∨ c = 61 ∨ c = 35 ∨ c = 91 ∨ c = 93
  · rcases h with rfl | rfl | rfl | rfl | rfl | rfl | rfl | rfl
    all_goals
      go_enter Tryd.func33, Tryd.ntmps33
      go_wp2
      go_ret
      exact ⟨rfl, rfl⟩
  · have e : sgnB c = false := by unfold sgnB; simp; omega
    rw [e]
    have d1 : (c == 43) = false := by simp; omega
    have d2 : (c == 45) = false := by simp; omega
    have d3 : (c == 42) = false := by simp; omega
    have d4 : (c == 47) = false := by simp; omega
    have d5 : (c == 61) = false := by simp; omega
    have d6 : (c == 35) = false := by simp; omega
    have d7 : (c == 91) = false := by simp; omega
    have d8 : (c == 93) = false := by simp; omega
    clear e h
    go_enter Tryd.func33, Tryd.ntmps33
    go_wp2
    go_ret
    exact ⟨rfl, rfl⟩
end Go.Proofs.YtiphekdahmiaeaaDoor

/-
  pocket.Circle: any arguments.
-/
import Derived.Test.YtnbfhdapdlpgiaaCirc15
namespace Go.Proofs.Ytnbfhdapdlpgiaa
open Go Go.RowKit
set_option linter.unusedVariables false

def goodC (cu cw radius step : Int) : Prop := 8 ≤ radius ∧ radius ≤ 1048576 ∧ 8 ≤ step ∧ (-1048576 ≤ cu ∧ cu ≤ 1048576) ∧ (-1048576 ≤ cw ∧ cw ≤ 1048576)
open Classical in
/-- What is returned of any arguments. -/
noncomputable def circleR (cu cw radius step : Int) : List (List Value) × Int :=
  if goodC cu cw radius step then (if rgN radius step ≤ 1000 then (circleL cu cw radius step, 0) else ([], 10)) else ([], 1)
theorem circleR_ok {cu cw radius step : Int} (h : goodC cu cw radius step) (hN : rgN radius step ≤ 1000) : circleR cu cw radius step = (circleL cu cw radius step, 0) := by unfold circleR; rw [if_pos h, if_pos hN]
theorem circleR_many {cu cw radius step : Int} (h : goodC cu cw radius step) (hN : ¬ rgN radius step ≤ 1000) : circleR cu cw radius step = ([], 10) := by unfold circleR; rw [if_pos h, if_neg hN]
theorem circleR_bad {cu cw radius step : Int} (h : ¬ goodC cu cw radius step) : circleR cu cw radius step = ([], 1) := by unfold circleR; rw [if_neg h]
theorem bad_cases {cu cw radius step : Int} (h : ¬ goodC cu cw radius step) : radius < 8 ∨ (8 ≤ radius ∧ 1048576 < radius) ∨ (8 ≤ radius ∧ radius ≤ 1048576 ∧ step < 8) ∨ (8 ≤ radius ∧ radius ≤ 1048576 ∧ 8 ≤ step ∧ ¬ (-1048576 ≤ cu ∧ cu ≤ 1048576)) ∨
    (8 ≤ radius ∧ radius ≤ 1048576 ∧ 8 ≤ step ∧ -1048576 ≤ cu ∧ cu ≤ 1048576 ∧ ¬ (-1048576 ≤ cw ∧ cw ≤ 1048576)) := by unfold goodC at h; omega

set_option maxHeartbeats 1000000 in
theorem circle_any (cu cw radius step : Int) (w : World) :
    Calls Try.prog 15 #[.agg #[.int .i64 cu, .int .i64 cw], .int .i64 radius, .int .i64 step] w (Out w (circleR cu cw radius step).1 (circleR cu cw radius step).2) := by
  have bel := (Below.refl w.heap.size w).alloc (Nat.le_refl _) (.cells #[.int .i64 cu, .int .i64 cw] 29)
  by_cases hg : goodC cu cw radius step
  · by_cases hN : rgN radius step ≤ 1000
    · rw [circleR_ok hg hN]
      obtain ⟨g1, g2, g3, ⟨g4, g5⟩, g6, g7⟩ := hg
      exact circle_main cu cw radius step w g1 g2 g3 g4 g5 g6 g7 hN
    · rw [circleR_many hg hN]
      obtain ⟨g1, g2, g3, ⟨g4, g5⟩, g6, g7⟩ := hg
      have d1 : decide ((1000 : Int) < (rgN radius step : Int)) = true := by simp; omega
      go_enter Try.func15, Try.ntmps15
      go_wp2_with (first
        | (go_at_call 26; refine (coordinate_yes _ _ (by assumption) (by assumption)).mono ?_; rintro e w' ⟨rfl, rfl⟩)
        | (go_at_call 22; refine (count_any radius step _ (by omega) (by omega) (by omega)).mono ?_; rintro e w' ⟨rfl, rfl⟩))
      go_ret2
      exact ⟨none, 0, rfl, World.ownsRow_nil _ _ _ _, bel⟩
  · rw [circleR_bad hg]
    rcases bad_cases hg with h | ⟨g1, h⟩ | ⟨g1, g2, h⟩ | ⟨g1, g2, g3, h⟩ | ⟨g1, g2, g3, g4, g5, h⟩
    all_goals
      clear hg
      go_enter Try.func15, Try.ntmps15
      go_wp2_with (first
        | (go_at_call 26; refine (coordinate_no _ _ h).mono ?_; rintro e w' ⟨rfl, rfl⟩)
        | (go_at_call 26; refine (coordinate_yes _ _ (by assumption) (by assumption)).mono ?_; rintro e w' ⟨rfl, rfl⟩))
      go_ret2
      exact ⟨none, 0, rfl, World.ownsRow_nil _ _ _ _, bel⟩
end Go.Proofs.Ytnbfhdapdlpgiaa

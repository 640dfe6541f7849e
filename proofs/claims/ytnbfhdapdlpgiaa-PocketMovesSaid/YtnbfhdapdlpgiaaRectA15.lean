/-
  cncref15.Rectangle: the answer at any arguments.
-/
import Derived.Test.YtnbfhdapdlpgiaaRRect15
namespace Go.Proofs.Ytnbfhdapdlpgiaa
open Go Go.RowKit
set_option linter.unusedVariables false

open Classical in
noncomputable def rectR (cu cw wd dp step : Int) : List (List Value) × Int :=
  if goodR cu cw wd dp step then (if rgN (mxx wd dp) step ≤ 1000 then (rectL cu cw wd dp step, 0) else ([], 10)) else ([], 1)
theorem rectR_ok {cu cw wd dp step : Int} (h : goodR cu cw wd dp step) (hN : rgN (mxx wd dp) step ≤ 1000) : rectR cu cw wd dp step = (rectL cu cw wd dp step, 0) := by unfold rectR; rw [if_pos h, if_pos hN]
theorem rectR_many {cu cw wd dp step : Int} (h : goodR cu cw wd dp step) (hN : ¬ rgN (mxx wd dp) step ≤ 1000) : rectR cu cw wd dp step = ([], 10) := by unfold rectR; rw [if_pos h, if_neg hN]
theorem rectR_bad {cu cw wd dp step : Int} (h : ¬ goodR cu cw wd dp step) : rectR cu cw wd dp step = ([], 1) := by unfold rectR; rw [if_neg h]
/-- How the width stands to naught, for the walk. -/
theorem wd_cases {wd dp : Int} (h : 0 < wd ∨ 0 < dp) (h1 : 0 ≤ wd) : ((wd == 0) = true ∧ (dp == 0) = false) ∨ ((wd == 0) = false ∧ True) := by
  by_cases h2 : wd = 0
  · exact .inl ⟨by simp [h2], by simp; omega⟩
  · exact .inr ⟨by simp [h2], trivial⟩
theorem badR_cases {cu cw wd dp step : Int} (h : ¬ goodR cu cw wd dp step) : wd < 0 ∨ (0 ≤ wd ∧ 1048576 < wd) ∨ (0 ≤ wd ∧ wd ≤ 1048576 ∧ dp < 0) ∨ (0 ≤ wd ∧ wd ≤ 1048576 ∧ 0 ≤ dp ∧ 1048576 < dp) ∨ (wd = 0 ∧ dp = 0) ∨
    (0 ≤ wd ∧ wd ≤ 1048576 ∧ 0 ≤ dp ∧ dp ≤ 1048576 ∧ (0 < wd ∨ 0 < dp) ∧ (step < 1 ∨ (1 ≤ step ∧ ¬ (-1048576 ≤ cu ∧ cu ≤ 1048576)) ∨ (1 ≤ step ∧ -1048576 ≤ cu ∧ cu ≤ 1048576 ∧ ¬ (-1048576 ≤ cw ∧ cw ≤ 1048576)))) := by
  unfold goodR at h; omega

theorem mxx_bd {wd dp : Int} (g1 : 0 ≤ wd) (g2 : wd ≤ 1048576) (g3 : 0 ≤ dp) (g4 : dp ≤ 1048576) (g5 : 0 < wd ∨ 0 < dp) : 1 ≤ mxx wd dp ∧ mxx wd dp ≤ 1048576 := by unfold mxx; split <;> omega

set_option maxRecDepth 100000 in
set_option maxHeartbeats 2000000 in
theorem rrect_any (cu cw wd dp step : Int) (w : World) :
    Calls Try.prog 20 #[.agg #[.int .i64 cu, .int .i64 cw], .int .i64 wd, .int .i64 dp, .int .i64 step] w (Out w (rectR cu cw wd dp step).1 (rectR cu cw wd dp step).2) := by
  have bel := (Below.refl w.heap.size w).alloc (Nat.le_refl _) (.cells #[.int .i64 cu, .int .i64 cw] 29)
  by_cases hg : goodR cu cw wd dp step
  · by_cases hN : rgN (mxx wd dp) step ≤ 1000
    · rw [rectR_ok hg hN]
      exact rrect_main cu cw wd dp step w hg hN
    · rw [rectR_many hg hN]
      obtain ⟨g1, g2, g3, g4, g5, g6, ⟨g7, g8⟩, g9, g10⟩ := hg
      have hsz : (if wd < dp then dp else wd) = mxx wd dp := rfl
      have hs1 := mxx_bd g1 g2 g3 g4 g5
      generalize mxx wd dp = size at *
      have hmany := fun W => many_any size step W (by omega) (by omega) (by omega)
      rw [show decide (1000 < rgN size step) = true from decide_eq_true (by omega)] at hmany
      have HM := Lib.hid hmany
      clear hmany hN
      rcases wd_cases g5 g1 with ⟨z1, z2⟩ | ⟨z1, z2⟩
      all_goals
        go_enter Try.func20, Try.ntmps20
        go_wp2_with (first
          | (go_at_call 28; ((with_reducible refine (in_yes _ _ (by assumption) (by assumption)).mono ?_); rintro e w' ⟨rfl, rfl⟩))
          | (go_at_call 25; refine (HM.out _).mono ?_; rintro e w' ⟨rfl, rfl⟩))
        go_ret2
        exact ⟨none, 0, rfl, World.ownsRow_nil _ _ _ _, bel⟩
  · rw [rectR_bad hg]
    rcases badR_cases hg with h | ⟨g1, h⟩ | ⟨g1, g2, h⟩ | ⟨g1, g2, g3, h⟩ | ⟨rfl, rfl⟩ | ⟨g1, g2, g3, g4, g5, h⟩
    iterate 5
      · clear hg
        go_enter Try.func20, Try.ntmps20
        go_wp2_with fail
        go_ret2
        exact ⟨none, 0, rfl, World.ownsRow_nil _ _ _ _, bel⟩
    rcases wd_cases g5 g1 with ⟨z1, z2⟩ | ⟨z1, z2⟩
    all_goals
      rcases h with h | ⟨g6, h⟩ | ⟨g6, g7, g8, h⟩
      all_goals
        clear hg
        go_enter Try.func20, Try.ntmps20
        go_wp2_with (first
          | (go_at_call 28; (with_reducible refine (in_no _ _ h).mono ?_); rintro e w' ⟨rfl, rfl⟩)
          | (go_at_call 28; (with_reducible refine (in_yes _ _ (by assumption) (by assumption)).mono ?_); rintro e w' ⟨rfl, rfl⟩))
        go_ret2
        exact ⟨none, 0, rfl, World.ownsRow_nil _ _ _ _, bel⟩
end Go.Proofs.Ytnbfhdapdlpgiaa

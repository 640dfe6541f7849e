/-
  pocket.Rectangle: any arguments that yield an error.
-/
import Derived.Test.YtnbfhdapdlpgiaaRectA15
namespace Go.Proofs.Ytnbfhdapdlpgiaa
open Go Go.RowKit
set_option linter.unusedVariables false

theorem badP_cases {cu cw wd dp step : Int} (h : ¬ goodR cu cw wd dp step) : wd < 0 ∨ (0 ≤ wd ∧ dp < 0) ∨ (0 ≤ wd ∧ 0 ≤ dp ∧ 1048576 < mxx wd dp) ∨ (0 ≤ wd ∧ 0 ≤ dp ∧ mxx wd dp = 0) ∨
    (0 ≤ wd ∧ 0 ≤ dp ∧ 1 ≤ mxx wd dp ∧ mxx wd dp ≤ 1048576 ∧ (step < 1 ∨ (1 ≤ step ∧ ¬ (-1048576 ≤ cu ∧ cu ≤ 1048576)) ∨ (1 ≤ step ∧ -1048576 ≤ cu ∧ cu ≤ 1048576 ∧ ¬ (-1048576 ≤ cw ∧ cw ≤ 1048576)))) := by
  unfold goodR at h; unfold mxx; split <;> omega

/-- The boxes of the arguments and of the size. -/
theorem rect_below (w : World) (cu cw wd dp size : Int) : Below w.heap.size w ((((w.alloc (.cells #[.int .i64 cu, .int .i64 cw] 29)).alloc (.cells #[.int .i64 wd] 3)).alloc (.cells #[.int .i64 dp] 3)).alloc (.cells #[.int .i64 size] 3)) :=
  ((((Below.refl _ _).alloc (by simp) _).alloc (by simp) _).alloc (by simp; omega) _).alloc (by simp; omega) _

set_option maxRecDepth 100000 in
set_option maxHeartbeats 2000000 in
theorem rect_early (cu cw wd dp step : Int) (w : World) (h : ¬ (goodR cu cw wd dp step ∧ rgN (mxx wd dp) step ≤ 1000)) :
    Calls Try.prog 19 #[.agg #[.int .i64 cu, .int .i64 cw], .int .i64 wd, .int .i64 dp, .int .i64 step] w (Out w (rectR cu cw wd dp step).1 (rectR cu cw wd dp step).2) := by
  by_cases hg : goodR cu cw wd dp step
  · have hN : ¬ rgN (mxx wd dp) step ≤ 1000 := fun h' => h ⟨hg, h'⟩
    rw [rectR_many hg hN]
    obtain ⟨g1, g2, g3, g4, g5, g6, ⟨g7, g8⟩, g9, g10⟩ := hg
    have hsz : (if wd < dp then dp else wd) = mxx wd dp := rfl
    have hs1 := mxx_bd g1 g2 g3 g4 g5
    clear h
    generalize mxx wd dp = size at *
    obtain ⟨hs1, hs2⟩ := hs1
    have z0 : (size == 0) = false := by simp; omega
    have d1 : decide ((1000 : Int) < (rgN size step : Int)) = true := by simp; omega
    clear hN
    go_enter Try.func19, Try.ntmps19
    go_wp2_with (first
      | (go_at_call 26; (with_reducible refine (coordinate_yes _ _ (by assumption) (by assumption)).mono ?_); rintro e w' ⟨rfl, rfl⟩)
      | (go_at_call 22; refine (count_any size step _ (by omega) (by omega) (by omega)).mono ?_; rintro e w' ⟨rfl, rfl⟩))
    go_ret2
    exact ⟨none, 0, rfl, World.ownsRow_nil _ _ _ _, rect_below _ _ _ _ _ _⟩
  · rw [rectR_bad hg]
    have hsz : (if wd < dp then dp else wd) = mxx wd dp := rfl
    have hc := badP_cases hg
    clear h hg
    generalize mxx wd dp = size at *
    rcases hc with h | ⟨g1, h⟩ | ⟨g1, g2, h⟩ | ⟨g1, g2, rfl⟩ | ⟨g1, g2, g3, g4, h⟩
    iterate 4
      · go_enter Try.func19, Try.ntmps19
        go_wp2_with fail
        go_ret2
        exact ⟨none, 0, rfl, World.ownsRow_nil _ _ _ _, rect_below _ _ _ _ _ _⟩
    have z0 : (size == 0) = false := by simp; omega
    rcases h with h | ⟨g6, h⟩ | ⟨g6, g7, g8, h⟩
    all_goals
      go_enter Try.func19, Try.ntmps19
      go_wp2_with (first
        | (go_at_call 26; (with_reducible refine (coordinate_no _ _ h).mono ?_); rintro e w' ⟨rfl, rfl⟩)
        | (go_at_call 26; (with_reducible refine (coordinate_yes _ _ (by assumption) (by assumption)).mono ?_); rintro e w' ⟨rfl, rfl⟩))
      go_ret2
      exact ⟨none, 0, rfl, World.ownsRow_nil _ _ _ _, rect_below _ _ _ _ _ _⟩
end Go.Proofs.Ytnbfhdapdlpgiaa

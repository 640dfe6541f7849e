/-
  cncmake.Mod.
-/
import Derived.Test.YteiogjgmedikhaaBase
import Derived.Test.YteiogjgmedikhaaChecked
namespace Go.Proofs.Yteiogjgmedikhaa
open Go Go.RowKit
set_option linter.unusedVariables false

theorem tmod_bd (v n : Int) (h : 1 ≤ n) : -n < v.tmod n ∧ v.tmod n < n := by
  have h0 := Int.emod_nonneg v (show n ≠ 0 by omega)
  have h1 := Int.emod_lt_of_pos v (show 0 < n by omega)
  rw [Int.tmod_eq_emod]
  split <;> omega
theorem tmod_emod (v n : Int) (h : 1 ≤ n) : (v.tmod n < 0 → v.tmod n + n = v % n) ∧ (¬ v.tmod n < 0 → v.tmod n = v % n) := by
  have h0 := Int.emod_nonneg v (show n ≠ 0 by omega)
  have h1 := Int.emod_lt_of_pos v (show 0 < n by omega)
  rw [Int.tmod_eq_emod]
  split <;> omega
theorem mod_any (v n : Int) (w : World) (h : 1 ≤ n) (hn : n ≤ 9007199254740992) :
    Calls Try.prog 19 #[.int .i64 v, .int .i64 n] w fun e w' => e = .returned (.int .i64 (v % n)) ∧ w = w' := by
  obtain ⟨h3, h4⟩ := tmod_emod v n h
  obtain ⟨h1, h2⟩ := tmod_bd v n h
  have d0 : (n == 0) = false := by simp; omega
  by_cases hr : v.tmod n < 0
  · have H := Lib.hid (h3 hr)
    clear h3 h4
    go_enter Try.func19, Try.ntmps19
    go_wp2
    go_ret
    exact ⟨ret_int H.out, rfl⟩
  · have H := Lib.hid (h4 hr)
    clear h3 h4
    go_enter Try.func19, Try.ntmps19
    go_wp2
    go_ret
    exact ⟨ret_int H.out, rfl⟩
end Go.Proofs.Yteiogjgmedikhaa

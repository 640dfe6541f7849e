/-
  VarsLocal returns true. Its arguments: any.
-/
import Derived.Test.YtdbhkpkndfhcoaaDoorLawsV07
namespace Go.Proofs.YtdbhkpkndfhcoaaDoor
open Go Go.RowKit
set_option linter.unusedVariables false

theorem vlocal_walk (a : Int) (w : World) (ht : Lib.TabIs Tryd.prog w "cnc/vars.numbers" .i64 tabNums) : Calls Tryd.prog 3 #[.int .i64 a] w fun e w' => e = .returned (.bool true) ∧ Below w.heap.size w w' := by
  have hw0 := tab_pos ht
  have hm1 := Int.emod_nonneg a (show (26 : Int) ≠ 0 by omega)
  have hm2 := Int.emod_lt_of_pos a (show (0 : Int) < 26 by omega)
  have KM := Lib.hid (fun W => mod_any a 26 W (by omega) (by omega))
  generalize a % 26 = r at *
  go_enter Tryd.func3, Tryd.ntmps3
  go_wp2_with fail
  refine (KM.out _).mono ?_
  rintro e w' ⟨rfl, rfl⟩
  go_wp2_with fail
  refine (awake_true _ ht).mono ?_
  rintro e w1 ⟨rfl, b1⟩
  have T1 := Lib.hid (tab_below ht b1 hw0)
  go_wp2_with fail
  refine (local_any a _ T1.out).mono ?_
  rintro e w' ⟨rfl, rfl⟩
  go_wp2_with fail
  refine (rlocal_any a _).mono ?_
  rintro e w2 ⟨rfl, b2⟩
  have b12 := b1.trans (b2.mono b1.size)
  have T2 := Lib.hid (tab_below ht b12 hw0)
  go_wp2_with fail
  refine (local_any _ _ T2.out).mono ?_
  rintro e w' ⟨rfl, rfl⟩
  go_wp2_with fail
  refine (rlocal_any _ _).mono ?_
  rintro e w3 ⟨rfl, b3⟩
  have b13 := b12.trans (b3.mono b12.size)
  have T3 := Lib.hid (tab_below ht b13 hw0)
  have K71 := Lib.hid (local_any 71 w3 T3.out)
  have K97 := Lib.hid (local_any 97 w3 T3.out)
  have e71 : localN 71 = 0 := by with_unfolding_all kernel_rfl
  have e97 : localN 97 = 0 := by with_unfolding_all kernel_rfl
  rw [e71] at K71
  rw [e97] at K97
  go_wp2_with fail
  refine K71.out.mono ?_
  rintro e w' ⟨rfl, rfl⟩
  go_wp2_with fail
  refine K97.out.mono ?_
  rintro e w' ⟨rfl, rfl⟩
  go_wp2_with fail
  go_ret
  exact ⟨rfl, b13⟩
end Go.Proofs.YtdbhkpkndfhcoaaDoor

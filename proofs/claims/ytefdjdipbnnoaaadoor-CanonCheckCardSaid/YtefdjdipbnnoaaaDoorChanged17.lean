/-
  cnclaw17.changed: an item with one field changed. Any item.
-/
import Derived.Test.YtefdjdipbnnoaaaDoorStageD17
namespace Go.Proofs.YtefdjdipbnnoaaaDoor
open Go Go.RowKit
set_option linter.unusedVariables false
set_option linter.unusedSimpArgs false

set_option maxRecDepth 100000 in
set_option maxHeartbeats 8000000 in
theorem changed_any (i : It) (which by' : Int) (w : World) : Calls Tryd.prog 14 #[.agg (itA i), .int .i64 which, .int .i64 by'] w fun e w' => ∃ j, e = .returned (.agg (itA j)) ∧ Below w.heap.size w w' := by
  have KM := Lib.hid (fun W => mod_any which 16 W (by omega) (by omega))
  have hr1 := Int.emod_nonneg which (show (16 : Int) ≠ 0 by omega)
  have hr2 := Int.emod_lt_of_pos which (show (0 : Int) < 16 by omega)
  obtain ⟨r, hr⟩ : ∃ r, which % 16 = r := ⟨_, rfl⟩
  rw [hr] at KM hr1 hr2
  clear hr
  obtain ⟨W, hW⟩ : ∃ W, (w.alloc (.cells (itA i) 25)).alloc (.cells (itA zeroI) 25) = W := ⟨_, rfl⟩
  have A : ItAt W w.heap.size i := by rw [← hW]; exact ItAt.alloc (ItAt.new w i) _
  have R : ItAt W (w.heap.size + 1) zeroI := by rw [← hW]; exact blk_new1 w _ _ _
  have BW : Below w.heap.size w W := by rw [← hW]; (repeat (first | exact Below.refl _ _ | refine Below.drew ?_ | refine Below.alloc ?_ (by first | exact Nat.le_refl _ | (simp; done) | (simp; omega)) _ | refine Below.setCell ?_ (by first | exact Nat.le_refl _ | (simp; done) | (simp; omega)) _))
  have A := Lib.hid A
  have R := Lib.hid R
  have BW := Lib.hid BW
  go_enter Tryd.func14, Tryd.ntmps14
  go_wp2_with ((with_reducible refine go_allocI ?_))
  try rw [hW]
  clear hW
  refine (KM.out _).mono ?_
  rintro e w' ⟨rfl, rfl⟩
  rcases (show r = 0 ∨ r = 1 ∨ r = 2 ∨ r = 3 ∨ r = 4 ∨ r = 5 ∨ r = 6 ∨ r = 7 ∨ r = 8 ∨ r = 9 ∨ r = 10 ∨ r = 11 ∨ r = 12 ∨ r = 13 ∨ r = 14 ∨ r = 15 by omega) with rfl | rfl | rfl | rfl | rfl | rfl | rfl | rfl | rfl | rfl | rfl | rfl | rfl | rfl | rfl | rfl
  · have f := Blk.frozen A.out 0
    have q := A.out.c0
    obtain ⟨oi, A2⟩ : ∃ oi, Hid (ItAt (W.setCell ⟨w.heap.size, 0, none⟩ (.int .i64 by')) w.heap.size oi) := ⟨_, Lib.hid (A.out.s0 by')⟩
    have R2 := Lib.hid (ItAt.far R.out (p := ⟨w.heap.size, 0, none⟩) (by show w.heap.size + 1 ≠ w.heap.size; omega) (.int .i64 by'))
    have B2 := Lib.hid (BW.out.setCell (p := ⟨w.heap.size, 0, none⟩) (Nat.le_refl _) (.int .i64 by'))
    have lt1 := R.out.lt
    have lt2 := A.out.lt
    clear A R BW KM
    go_wp2_with (first | ((with_reducible refine go_loadI (.tmp 3) w.heap.size oi (by with_unfolding_all rfl) A2.out ?_)) | ((with_reducible refine go_storeI (.tmp 6) (.tmp 80) (w.heap.size + 1) oi zeroI (by with_unfolding_all rfl) (by with_unfolding_all rfl) R2.out ?_)))
    refine bodyPost_ret (results_cell_row rfl _ _ (w.heap.size + 1) 25 (itA oi) (0, 0) _ rfl (show Blk _ _ _ _ from ItAt.row (o := zeroI) R2.out _) Tryd.underlying25 rfl (by kernel_rfl)) rfl ?_
    exact ⟨oi, rfl, below_row B2.out (by omega) _⟩
  · have f := Blk.frozen A.out 1
    have q := A.out.c1
    obtain ⟨oi, A2⟩ : ∃ oi, Hid (ItAt (W.setCell ⟨w.heap.size, 1, none⟩ (.int .i64 by')) w.heap.size oi) := ⟨_, Lib.hid (A.out.s1 by')⟩
    have R2 := Lib.hid (ItAt.far R.out (p := ⟨w.heap.size, 1, none⟩) (by show w.heap.size + 1 ≠ w.heap.size; omega) (.int .i64 by'))
    have B2 := Lib.hid (BW.out.setCell (p := ⟨w.heap.size, 1, none⟩) (Nat.le_refl _) (.int .i64 by'))
    have lt1 := R.out.lt
    have lt2 := A.out.lt
    clear A R BW KM
    go_wp2_with (first | ((with_reducible refine go_loadI (.tmp 3) w.heap.size oi (by with_unfolding_all rfl) A2.out ?_)) | ((with_reducible refine go_storeI (.tmp 6) (.tmp 80) (w.heap.size + 1) oi zeroI (by with_unfolding_all rfl) (by with_unfolding_all rfl) R2.out ?_)))
    refine bodyPost_ret (results_cell_row rfl _ _ (w.heap.size + 1) 25 (itA oi) (0, 0) _ rfl (show Blk _ _ _ _ from ItAt.row (o := zeroI) R2.out _) Tryd.underlying25 rfl (by kernel_rfl)) rfl ?_
    exact ⟨oi, rfl, below_row B2.out (by omega) _⟩
  · have f := Blk.frozen A.out 2
    have q := A.out.c2
    obtain ⟨oi, A2⟩ : ∃ oi, Hid (ItAt (W.setCell ⟨w.heap.size, 2, none⟩ (.int .i64 by')) w.heap.size oi) := ⟨_, Lib.hid (A.out.s2 by')⟩
    have R2 := Lib.hid (ItAt.far R.out (p := ⟨w.heap.size, 2, none⟩) (by show w.heap.size + 1 ≠ w.heap.size; omega) (.int .i64 by'))
    have B2 := Lib.hid (BW.out.setCell (p := ⟨w.heap.size, 2, none⟩) (Nat.le_refl _) (.int .i64 by'))
    have lt1 := R.out.lt
    have lt2 := A.out.lt
    clear A R BW KM
    go_wp2_with (first | ((with_reducible refine go_loadI (.tmp 3) w.heap.size oi (by with_unfolding_all rfl) A2.out ?_)) | ((with_reducible refine go_storeI (.tmp 6) (.tmp 80) (w.heap.size + 1) oi zeroI (by with_unfolding_all rfl) (by with_unfolding_all rfl) R2.out ?_)))
    refine bodyPost_ret (results_cell_row rfl _ _ (w.heap.size + 1) 25 (itA oi) (0, 0) _ rfl (show Blk _ _ _ _ from ItAt.row (o := zeroI) R2.out _) Tryd.underlying25 rfl (by kernel_rfl)) rfl ?_
    exact ⟨oi, rfl, below_row B2.out (by omega) _⟩
  · have f := Blk.frozen A.out 7
    have q := A.out.c7
    obtain ⟨oi, A2⟩ : ∃ oi, Hid (ItAt (W.setCell ⟨w.heap.size, 7, none⟩ (.int .i64 by')) w.heap.size oi) := ⟨_, Lib.hid (A.out.s7 by')⟩
    have R2 := Lib.hid (ItAt.far R.out (p := ⟨w.heap.size, 7, none⟩) (by show w.heap.size + 1 ≠ w.heap.size; omega) (.int .i64 by'))
    have B2 := Lib.hid (BW.out.setCell (p := ⟨w.heap.size, 7, none⟩) (Nat.le_refl _) (.int .i64 by'))
    have lt1 := R.out.lt
    have lt2 := A.out.lt
    clear A R BW KM
    go_wp2_with (first | ((with_reducible refine go_loadI (.tmp 3) w.heap.size oi (by with_unfolding_all rfl) A2.out ?_)) | ((with_reducible refine go_storeI (.tmp 6) (.tmp 80) (w.heap.size + 1) oi zeroI (by with_unfolding_all rfl) (by with_unfolding_all rfl) R2.out ?_)))
    refine bodyPost_ret (results_cell_row rfl _ _ (w.heap.size + 1) 25 (itA oi) (0, 0) _ rfl (show Blk _ _ _ _ from ItAt.row (o := zeroI) R2.out _) Tryd.underlying25 rfl (by kernel_rfl)) rfl ?_
    exact ⟨oi, rfl, below_row B2.out (by omega) _⟩
  · have f := Blk.frozen A.out 8
    have q := A.out.c8
    obtain ⟨oi, A2⟩ : ∃ oi, Hid (ItAt (W.setCell ⟨w.heap.size, 8, none⟩ (.int .i64 by')) w.heap.size oi) := ⟨_, Lib.hid (A.out.s8 by')⟩
    have R2 := Lib.hid (ItAt.far R.out (p := ⟨w.heap.size, 8, none⟩) (by show w.heap.size + 1 ≠ w.heap.size; omega) (.int .i64 by'))
    have B2 := Lib.hid (BW.out.setCell (p := ⟨w.heap.size, 8, none⟩) (Nat.le_refl _) (.int .i64 by'))
    have lt1 := R.out.lt
    have lt2 := A.out.lt
    clear A R BW KM
    go_wp2_with (first | ((with_reducible refine go_loadI (.tmp 3) w.heap.size oi (by with_unfolding_all rfl) A2.out ?_)) | ((with_reducible refine go_storeI (.tmp 6) (.tmp 80) (w.heap.size + 1) oi zeroI (by with_unfolding_all rfl) (by with_unfolding_all rfl) R2.out ?_)))
    refine bodyPost_ret (results_cell_row rfl _ _ (w.heap.size + 1) 25 (itA oi) (0, 0) _ rfl (show Blk _ _ _ _ from ItAt.row (o := zeroI) R2.out _) Tryd.underlying25 rfl (by kernel_rfl)) rfl ?_
    exact ⟨oi, rfl, below_row B2.out (by omega) _⟩
  · have f := Blk.frozen A.out 10
    have q := A.out.c10
    obtain ⟨oi, A2⟩ : ∃ oi, Hid (ItAt (W.setCell ⟨w.heap.size, 10, none⟩ (.int .i64 by')) w.heap.size oi) := ⟨_, Lib.hid (A.out.s10 by')⟩
    have R2 := Lib.hid (ItAt.far R.out (p := ⟨w.heap.size, 10, none⟩) (by show w.heap.size + 1 ≠ w.heap.size; omega) (.int .i64 by'))
    have B2 := Lib.hid (BW.out.setCell (p := ⟨w.heap.size, 10, none⟩) (Nat.le_refl _) (.int .i64 by'))
    have lt1 := R.out.lt
    have lt2 := A.out.lt
    clear A R BW KM
    go_wp2_with (first | ((with_reducible refine go_loadI (.tmp 3) w.heap.size oi (by with_unfolding_all rfl) A2.out ?_)) | ((with_reducible refine go_storeI (.tmp 6) (.tmp 80) (w.heap.size + 1) oi zeroI (by with_unfolding_all rfl) (by with_unfolding_all rfl) R2.out ?_)))
    refine bodyPost_ret (results_cell_row rfl _ _ (w.heap.size + 1) 25 (itA oi) (0, 0) _ rfl (show Blk _ _ _ _ from ItAt.row (o := zeroI) R2.out _) Tryd.underlying25 rfl (by kernel_rfl)) rfl ?_
    exact ⟨oi, rfl, below_row B2.out (by omega) _⟩
  · have f := Blk.frozen A.out 12
    have q := A.out.c12
    obtain ⟨oi, A2⟩ : ∃ oi, Hid (ItAt (W.setCell ⟨w.heap.size, 12, none⟩ (.int .i64 by')) w.heap.size oi) := ⟨_, Lib.hid (A.out.s12 by')⟩
    have R2 := Lib.hid (ItAt.far R.out (p := ⟨w.heap.size, 12, none⟩) (by show w.heap.size + 1 ≠ w.heap.size; omega) (.int .i64 by'))
    have B2 := Lib.hid (BW.out.setCell (p := ⟨w.heap.size, 12, none⟩) (Nat.le_refl _) (.int .i64 by'))
    have lt1 := R.out.lt
    have lt2 := A.out.lt
    clear A R BW KM
    go_wp2_with (first | ((with_reducible refine go_loadI (.tmp 3) w.heap.size oi (by with_unfolding_all rfl) A2.out ?_)) | ((with_reducible refine go_storeI (.tmp 6) (.tmp 80) (w.heap.size + 1) oi zeroI (by with_unfolding_all rfl) (by with_unfolding_all rfl) R2.out ?_)))
    refine bodyPost_ret (results_cell_row rfl _ _ (w.heap.size + 1) 25 (itA oi) (0, 0) _ rfl (show Blk _ _ _ _ from ItAt.row (o := zeroI) R2.out _) Tryd.underlying25 rfl (by kernel_rfl)) rfl ?_
    exact ⟨oi, rfl, below_row B2.out (by omega) _⟩
  · have f := Blk.frozen A.out 13
    have q := A.out.c13
    obtain ⟨oi, A2⟩ : ∃ oi, Hid (ItAt (W.setCell ⟨w.heap.size, 13, none⟩ (.bool (!i.full))) w.heap.size oi) := ⟨_, Lib.hid (A.out.s13 (!i.full))⟩
    have R2 := Lib.hid (ItAt.far R.out (p := ⟨w.heap.size, 13, none⟩) (by show w.heap.size + 1 ≠ w.heap.size; omega) (.bool (!i.full)))
    have B2 := Lib.hid (BW.out.setCell (p := ⟨w.heap.size, 13, none⟩) (Nat.le_refl _) (.bool (!i.full)))
    have lt1 := R.out.lt
    have lt2 := A.out.lt
    clear A R BW KM
    go_wp2_with (first | ((with_reducible refine go_loadI (.tmp 3) w.heap.size oi (by with_unfolding_all rfl) A2.out ?_)) | ((with_reducible refine go_storeI (.tmp 6) (.tmp 80) (w.heap.size + 1) oi zeroI (by with_unfolding_all rfl) (by with_unfolding_all rfl) R2.out ?_)))
    refine bodyPost_ret (results_cell_row rfl _ _ (w.heap.size + 1) 25 (itA oi) (0, 0) _ rfl (show Blk _ _ _ _ from ItAt.row (o := zeroI) R2.out _) Tryd.underlying25 rfl (by kernel_rfl)) rfl ?_
    exact ⟨oi, rfl, below_row B2.out (by omega) _⟩
  · have f := Blk.frozen A.out 14
    have q := A.out.c14
    obtain ⟨oi, A2⟩ : ∃ oi, Hid (ItAt (W.setCell ⟨w.heap.size, 14, none⟩ (.int .i64 by')) w.heap.size oi) := ⟨_, Lib.hid (A.out.s14 by')⟩
    have R2 := Lib.hid (ItAt.far R.out (p := ⟨w.heap.size, 14, none⟩) (by show w.heap.size + 1 ≠ w.heap.size; omega) (.int .i64 by'))
    have B2 := Lib.hid (BW.out.setCell (p := ⟨w.heap.size, 14, none⟩) (Nat.le_refl _) (.int .i64 by'))
    have lt1 := R.out.lt
    have lt2 := A.out.lt
    clear A R BW KM
    go_wp2_with (first | ((with_reducible refine go_loadI (.tmp 3) w.heap.size oi (by with_unfolding_all rfl) A2.out ?_)) | ((with_reducible refine go_storeI (.tmp 6) (.tmp 80) (w.heap.size + 1) oi zeroI (by with_unfolding_all rfl) (by with_unfolding_all rfl) R2.out ?_)))
    refine bodyPost_ret (results_cell_row rfl _ _ (w.heap.size + 1) 25 (itA oi) (0, 0) _ rfl (show Blk _ _ _ _ from ItAt.row (o := zeroI) R2.out _) Tryd.underlying25 rfl (by kernel_rfl)) rfl ?_
    exact ⟨oi, rfl, below_row B2.out (by omega) _⟩
  · have f := Blk.frozen A.out 15
    have q := A.out.c15
    obtain ⟨oi, A2⟩ : ∃ oi, Hid (ItAt (W.setCell ⟨w.heap.size, 15, none⟩ (.bool (!i.perRev))) w.heap.size oi) := ⟨_, Lib.hid (A.out.s15 (!i.perRev))⟩
    have R2 := Lib.hid (ItAt.far R.out (p := ⟨w.heap.size, 15, none⟩) (by show w.heap.size + 1 ≠ w.heap.size; omega) (.bool (!i.perRev)))
    have B2 := Lib.hid (BW.out.setCell (p := ⟨w.heap.size, 15, none⟩) (Nat.le_refl _) (.bool (!i.perRev)))
    have lt1 := R.out.lt
    have lt2 := A.out.lt
    clear A R BW KM
    go_wp2_with (first | ((with_reducible refine go_loadI (.tmp 3) w.heap.size oi (by with_unfolding_all rfl) A2.out ?_)) | ((with_reducible refine go_storeI (.tmp 6) (.tmp 80) (w.heap.size + 1) oi zeroI (by with_unfolding_all rfl) (by with_unfolding_all rfl) R2.out ?_)))
    refine bodyPost_ret (results_cell_row rfl _ _ (w.heap.size + 1) 25 (itA oi) (0, 0) _ rfl (show Blk _ _ _ _ from ItAt.row (o := zeroI) R2.out _) Tryd.underlying25 rfl (by kernel_rfl)) rfl ?_
    exact ⟨oi, rfl, below_row B2.out (by omega) _⟩
  · have f := Blk.frozen A.out 16
    have q := A.out.c16
    obtain ⟨oi, A2⟩ : ∃ oi, Hid (ItAt (W.setCell ⟨w.heap.size, 16, none⟩ (.int .i64 by')) w.heap.size oi) := ⟨_, Lib.hid (A.out.s16 by')⟩
    have R2 := Lib.hid (ItAt.far R.out (p := ⟨w.heap.size, 16, none⟩) (by show w.heap.size + 1 ≠ w.heap.size; omega) (.int .i64 by'))
    have B2 := Lib.hid (BW.out.setCell (p := ⟨w.heap.size, 16, none⟩) (Nat.le_refl _) (.int .i64 by'))
    have lt1 := R.out.lt
    have lt2 := A.out.lt
    clear A R BW KM
    go_wp2_with (first | ((with_reducible refine go_loadI (.tmp 3) w.heap.size oi (by with_unfolding_all rfl) A2.out ?_)) | ((with_reducible refine go_storeI (.tmp 6) (.tmp 80) (w.heap.size + 1) oi zeroI (by with_unfolding_all rfl) (by with_unfolding_all rfl) R2.out ?_)))
    refine bodyPost_ret (results_cell_row rfl _ _ (w.heap.size + 1) 25 (itA oi) (0, 0) _ rfl (show Blk _ _ _ _ from ItAt.row (o := zeroI) R2.out _) Tryd.underlying25 rfl (by kernel_rfl)) rfl ?_
    exact ⟨oi, rfl, below_row B2.out (by omega) _⟩
  · have f := Blk.frozen A.out 17
    have q := A.out.c17
    obtain ⟨oi, A2⟩ : ∃ oi, Hid (ItAt (W.setCell ⟨w.heap.size, 17, none⟩ (.int .i64 by')) w.heap.size oi) := ⟨_, Lib.hid (A.out.s17 by')⟩
    have R2 := Lib.hid (ItAt.far R.out (p := ⟨w.heap.size, 17, none⟩) (by show w.heap.size + 1 ≠ w.heap.size; omega) (.int .i64 by'))
    have B2 := Lib.hid (BW.out.setCell (p := ⟨w.heap.size, 17, none⟩) (Nat.le_refl _) (.int .i64 by'))
    have lt1 := R.out.lt
    have lt2 := A.out.lt
    clear A R BW KM
    go_wp2_with (first | ((with_reducible refine go_loadI (.tmp 3) w.heap.size oi (by with_unfolding_all rfl) A2.out ?_)) | ((with_reducible refine go_storeI (.tmp 6) (.tmp 80) (w.heap.size + 1) oi zeroI (by with_unfolding_all rfl) (by with_unfolding_all rfl) R2.out ?_)))
    refine bodyPost_ret (results_cell_row rfl _ _ (w.heap.size + 1) 25 (itA oi) (0, 0) _ rfl (show Blk _ _ _ _ from ItAt.row (o := zeroI) R2.out _) Tryd.underlying25 rfl (by kernel_rfl)) rfl ?_
    exact ⟨oi, rfl, below_row B2.out (by omega) _⟩
  · have f := Blk.frozen A.out 18
    have q := A.out.c18
    obtain ⟨oi, A2⟩ : ∃ oi, Hid (ItAt (W.setCell ⟨w.heap.size, 18, none⟩ (.int .i64 by')) w.heap.size oi) := ⟨_, Lib.hid (A.out.s18 by')⟩
    have R2 := Lib.hid (ItAt.far R.out (p := ⟨w.heap.size, 18, none⟩) (by show w.heap.size + 1 ≠ w.heap.size; omega) (.int .i64 by'))
    have B2 := Lib.hid (BW.out.setCell (p := ⟨w.heap.size, 18, none⟩) (Nat.le_refl _) (.int .i64 by'))
    have lt1 := R.out.lt
    have lt2 := A.out.lt
    clear A R BW KM
    go_wp2_with (first | ((with_reducible refine go_loadI (.tmp 3) w.heap.size oi (by with_unfolding_all rfl) A2.out ?_)) | ((with_reducible refine go_storeI (.tmp 6) (.tmp 80) (w.heap.size + 1) oi zeroI (by with_unfolding_all rfl) (by with_unfolding_all rfl) R2.out ?_)))
    refine bodyPost_ret (results_cell_row rfl _ _ (w.heap.size + 1) 25 (itA oi) (0, 0) _ rfl (show Blk _ _ _ _ from ItAt.row (o := zeroI) R2.out _) Tryd.underlying25 rfl (by kernel_rfl)) rfl ?_
    exact ⟨oi, rfl, below_row B2.out (by omega) _⟩
  · have f := Blk.frozen A.out 19
    have q := A.out.c19
    obtain ⟨oi, A2⟩ : ∃ oi, Hid (ItAt (W.setCell ⟨w.heap.size, 19, none⟩ (.int .i64 by')) w.heap.size oi) := ⟨_, Lib.hid (A.out.s19 by')⟩
    have R2 := Lib.hid (ItAt.far R.out (p := ⟨w.heap.size, 19, none⟩) (by show w.heap.size + 1 ≠ w.heap.size; omega) (.int .i64 by'))
    have B2 := Lib.hid (BW.out.setCell (p := ⟨w.heap.size, 19, none⟩) (Nat.le_refl _) (.int .i64 by'))
    have lt1 := R.out.lt
    have lt2 := A.out.lt
    clear A R BW KM
    go_wp2_with (first | ((with_reducible refine go_loadI (.tmp 3) w.heap.size oi (by with_unfolding_all rfl) A2.out ?_)) | ((with_reducible refine go_storeI (.tmp 6) (.tmp 80) (w.heap.size + 1) oi zeroI (by with_unfolding_all rfl) (by with_unfolding_all rfl) R2.out ?_)))
    refine bodyPost_ret (results_cell_row rfl _ _ (w.heap.size + 1) 25 (itA oi) (0, 0) _ rfl (show Blk _ _ _ _ from ItAt.row (o := zeroI) R2.out _) Tryd.underlying25 rfl (by kernel_rfl)) rfl ?_
    exact ⟨oi, rfl, below_row B2.out (by omega) _⟩
  · have f := Blk.frozen A.out 20
    have q := A.out.c20
    obtain ⟨oi, A2⟩ : ∃ oi, Hid (ItAt (W.setCell ⟨w.heap.size, 20, none⟩ (.int .i64 by')) w.heap.size oi) := ⟨_, Lib.hid (A.out.s20 by')⟩
    have R2 := Lib.hid (ItAt.far R.out (p := ⟨w.heap.size, 20, none⟩) (by show w.heap.size + 1 ≠ w.heap.size; omega) (.int .i64 by'))
    have B2 := Lib.hid (BW.out.setCell (p := ⟨w.heap.size, 20, none⟩) (Nat.le_refl _) (.int .i64 by'))
    have lt1 := R.out.lt
    have lt2 := A.out.lt
    clear A R BW KM
    go_wp2_with (first | ((with_reducible refine go_loadI (.tmp 3) w.heap.size oi (by with_unfolding_all rfl) A2.out ?_)) | ((with_reducible refine go_storeI (.tmp 6) (.tmp 80) (w.heap.size + 1) oi zeroI (by with_unfolding_all rfl) (by with_unfolding_all rfl) R2.out ?_)))
    refine bodyPost_ret (results_cell_row rfl _ _ (w.heap.size + 1) 25 (itA oi) (0, 0) _ rfl (show Blk _ _ _ _ from ItAt.row (o := zeroI) R2.out _) Tryd.underlying25 rfl (by kernel_rfl)) rfl ?_
    exact ⟨oi, rfl, below_row B2.out (by omega) _⟩
  · have f := Blk.frozen A.out 21
    have q := A.out.c21
    obtain ⟨oi, A2⟩ : ∃ oi, Hid (ItAt (W.setCell ⟨w.heap.size, 21, none⟩ (.bool (!i.on))) w.heap.size oi) := ⟨_, Lib.hid (A.out.s21 (!i.on))⟩
    have R2 := Lib.hid (ItAt.far R.out (p := ⟨w.heap.size, 21, none⟩) (by show w.heap.size + 1 ≠ w.heap.size; omega) (.bool (!i.on)))
    have B2 := Lib.hid (BW.out.setCell (p := ⟨w.heap.size, 21, none⟩) (Nat.le_refl _) (.bool (!i.on)))
    have lt1 := R.out.lt
    have lt2 := A.out.lt
    clear A R BW KM
    go_wp2_with (first | ((with_reducible refine go_loadI (.tmp 3) w.heap.size oi (by with_unfolding_all rfl) A2.out ?_)) | ((with_reducible refine go_storeI (.tmp 6) (.tmp 80) (w.heap.size + 1) oi zeroI (by with_unfolding_all rfl) (by with_unfolding_all rfl) R2.out ?_)))
    refine bodyPost_ret (results_cell_row rfl _ _ (w.heap.size + 1) 25 (itA oi) (0, 0) _ rfl (show Blk _ _ _ _ from ItAt.row (o := zeroI) R2.out _) Tryd.underlying25 rfl (by kernel_rfl)) rfl ?_
    exact ⟨oi, rfl, below_row B2.out (by omega) _⟩
end Go.Proofs.YtefdjdipbnnoaaaDoor

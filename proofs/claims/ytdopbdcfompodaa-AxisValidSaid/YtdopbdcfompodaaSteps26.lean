/-
  AxisSteps, AxisNearest and AxisMonotone return true. Their arguments: any.
-/
import Derived.Test.YtdopbdcfompodaaLaws26
namespace Go.Proofs.Ytdopbdcfompodaa
open Go Go.RowKit
set_option linter.unusedVariables false

theorem wrap_id (n : Int) (h1 : -9223372036854775808 ≤ n) (h2 : n ≤ 9223372036854775807) : IntKind.i64.wrap n = n := by
  rw [IntKind.wrap_i64]; omega

theorem stepOf_near (s q : Int) (hs : 4 ≤ s) : 2 * (stepOf s q * s - q) ≤ s ∧ -2 * (stepOf s q * s - q) < s := by
  have h1 := Int.mul_ediv_add_emod (2 * q + s) (2 * s)
  have h2 := Int.emod_nonneg (2 * q + s) (show 2 * s ≠ 0 by omega)
  have h3 := Int.emod_lt_of_pos (2 * q + s) (show 0 < 2 * s by omega)
  unfold stepOf
  have h4 : 2 * s * ((2 * q + s) / (2 * s)) = 2 * ((2 * q + s) / (2 * s) * s) := by rw [Int.mul_assoc, Int.mul_comm s]
  rw [h4] at h1
  omega
theorem stepOf_mono (s q d : Int) (hs : 4 ≤ s) (hd : 0 ≤ d ∧ d ≤ s) : stepOf s q ≤ stepOf s (q + d) ∧ stepOf s (q + d) ≤ stepOf s q + 1 ∧ stepOf s (q + s) = stepOf s q + 1 := by
  have h1 : stepOf s (q + s) = stepOf s q + 1 := by
    unfold stepOf
    rw [show 2 * (q + s) + s = 2 * q + s + 1 * (2 * s) by omega, Int.add_mul_ediv_right _ _ (by omega)]
  refine ⟨?_, ?_, h1⟩
  · unfold stepOf
    exact Int.ediv_le_ediv (by omega) (by omega)
  · rw [← h1]
    unfold stepOf
    exact Int.ediv_le_ediv (by omega) (by omega)

theorem near_yes {n : Int} (h : nearB n = true) (w : World) : Calls Try.prog 10 #[.int .i64 n] w fun e w' => e = .returned (.bool true) ∧ w = w' := by
  rw [← h]; exact near_any n w
theorem near_no {n : Int} (h : nearB n = false) (w : World) : Calls Try.prog 10 #[.int .i64 n] w fun e w' => e = .returned (.bool false) ∧ w = w' := by
  rw [← h]; exact near_any n w
set_option maxRecDepth 100000 in
set_option maxHeartbeats 1000000 in
theorem steps_walk (a0 : Option Addr) (len0 cap0 : Nat) (z0 : List Int) (a1 : Int) (w : World) (hr : IsRow .i64 w a0 len0 cap0 z0) :
    Calls Try.prog 3 #[.slice a0 len0 cap0, .int .i64 a1] w fun e w' => e = .returned (.bool true) ∧ Below w.heap.size w w' := by
  go_enter Try.func3, Try.ntmps3
  go_wp2_with fail
  refine (awake_true _).mono ?_
  rintro e wa ⟨rfl, bela⟩
  go_wp2_with fail
  refine (axes_any wa _ _ _ z0 (hr.below bela)).mono ?_
  rintro e wb ⟨v1, v2, v3, rfl, g1, g2, g3, belb, own⟩
  have bel := bela.trans (belb.mono bela.size)
  clear bela belb own
  have i0 := fun W => axis0 v1 v2 v3 W
  simp only [AxisV.cells, List.append_toArray, List.cons_append, List.nil_append] at i0 ⊢
  by_cases h1 : nearB a1 = true
  · have n1 : -67108864 ≤ a1 ∧ a1 ≤ 67108864 := by simpa [nearB] using h1
    go_wp2_with fail
    go_region_held3 (fun w' => (w'.cell? ⟨wb.heap.size, 0, none⟩ = some (.int .i64 v1.st) ∧ w'.cell? ⟨wb.heap.size, 1, none⟩ = some (.int .i64 v1.sp) ∧ w'.cell? ⟨wb.heap.size, 2, none⟩ = some (.int .i64 v1.ac) ∧ w'.cell? ⟨wb.heap.size, 3, none⟩ = some (.int .i64 v1.je) ∧ w'.cell? ⟨wb.heap.size, 4, none⟩ = some (.int .i64 (-16777216)) ∧ w'.cell? ⟨wb.heap.size, 5, none⟩ = some (.int .i64 16777216) ∧ w'.cell? ⟨wb.heap.size, 6, none⟩ = some (.int .i64 v1.ba) ∧ w'.cell? ⟨wb.heap.size, 7, none⟩ = some (.int .i64 v1.og) ∧ w'.cell? ⟨wb.heap.size, 8, none⟩ = some (.int .i64 v1.sg) ∧ w'.cell? ⟨wb.heap.size, 9, none⟩ = some (.slice v1.pa v1.pn v1.pc)) ∧ wb.heap.size < w'.heap.size) (simp [go_sem, World.cell?_alloc_past]) (first | (go_at_call 10; refine (near_yes (by assumption) _).mono ?_; rintro e w' ⟨rfl, rfl⟩) | (go_at_call 11; refine (steps_any v1.st v1.sp v1.ac v1.je (-16777216) 16777216 v1.ba v1.og v1.sg v1.pa v1.pn v1.pc a1 _ g1.st (by omega)).mono ?_; rintro e w' ⟨rfl, k, rfl⟩; dsimp only [axc]) | (go_at_call 12; refine (rsteps_any v1.st v1.sp v1.ac v1.je (-16777216) 16777216 v1.ba v1.og v1.sg v1.pa v1.pn v1.pc a1 _ g1.st (by omega)).mono ?_; rintro e w' ⟨rfl, k, rfl⟩; dsimp only [axc]))
    go_wp2_with fail
    go_ret
    exact ⟨rfl, by repeat (first | exact bel | (refine below_drewN ?_ _) | (refine Below.alloc ?_ (by have := bel.size; simp; try omega) _) | refine Below.drew ?_)⟩
  · have h1' : nearB a1 = false := by simpa using h1
    go_wp2_with fail
    go_quiet (exact (near_no (by assumption) _).mono fun _ _ h => ⟨h.1, _, h.2.symm⟩)
    go_wp2_with fail
    go_ret
    exact ⟨rfl, by repeat (first | exact bel | (refine below_drewN ?_ _) | (refine Below.alloc ?_ (by have := bel.size; simp; try omega) _) | refine Below.drew ?_)⟩

set_option maxRecDepth 100000 in
set_option maxHeartbeats 1000000 in
theorem nearest_walk (a0 : Option Addr) (len0 cap0 : Nat) (z0 : List Int) (a1 : Int) (w : World) (hr : IsRow .i64 w a0 len0 cap0 z0) :
    Calls Try.prog 4 #[.slice a0 len0 cap0, .int .i64 a1] w fun e w' => e = .returned (.bool true) ∧ Below w.heap.size w w' := by
  go_enter Try.func4, Try.ntmps4
  go_wp2_with fail
  refine (awake_true _).mono ?_
  rintro e wa ⟨rfl, bela⟩
  go_wp2_with fail
  refine (axes_any wa _ _ _ z0 (hr.below bela)).mono ?_
  rintro e wb ⟨v1, v2, v3, rfl, g1, g2, g3, belb, own⟩
  have bel := bela.trans (belb.mono bela.size)
  clear bela belb own
  have i0 := fun W => axis0 v1 v2 v3 W
  simp only [AxisV.cells, List.append_toArray, List.cons_append, List.nil_append] at i0 ⊢
  by_cases h1 : nearB a1 = true
  · have n1 : -67108864 ≤ a1 ∧ a1 ≤ 67108864 := by simpa [nearB] using h1
    have hst := g1.st
    obtain ⟨hst1, hst2⟩ := hst
    obtain ⟨hn1, hn2⟩ := stepOf_near v1.st a1 (by omega)
    obtain ⟨hp1, hp2⟩ : -1099511627776 ≤ stepOf v1.st a1 * v1.st ∧ stepOf v1.st a1 * v1.st ≤ 1099511627776 := by omega
    go_wp2_with (first | (go_at_call 10; refine (near_yes (by assumption) _).mono ?_; rintro e w' ⟨rfl, rfl⟩) | (go_at_call 10; refine (near_no (by assumption) _).mono ?_; rintro e w' ⟨rfl, rfl⟩))
    go_region_held3 (fun w' => (w'.cell? ⟨wb.heap.size, 0, none⟩ = some (.int .i64 v1.st) ∧ w'.cell? ⟨wb.heap.size, 1, none⟩ = some (.int .i64 v1.sp) ∧ w'.cell? ⟨wb.heap.size, 2, none⟩ = some (.int .i64 v1.ac) ∧ w'.cell? ⟨wb.heap.size, 3, none⟩ = some (.int .i64 v1.je) ∧ w'.cell? ⟨wb.heap.size, 4, none⟩ = some (.int .i64 (-16777216)) ∧ w'.cell? ⟨wb.heap.size, 5, none⟩ = some (.int .i64 16777216) ∧ w'.cell? ⟨wb.heap.size, 6, none⟩ = some (.int .i64 v1.ba) ∧ w'.cell? ⟨wb.heap.size, 7, none⟩ = some (.int .i64 v1.og) ∧ w'.cell? ⟨wb.heap.size, 8, none⟩ = some (.int .i64 v1.sg) ∧ w'.cell? ⟨wb.heap.size, 9, none⟩ = some (.slice v1.pa v1.pn v1.pc)) ∧ wb.heap.size < w'.heap.size) (simp [go_sem, World.cell?_alloc_past]) (first | (go_at_call 11; refine (steps_any v1.st v1.sp v1.ac v1.je (-16777216) 16777216 v1.ba v1.og v1.sg v1.pa v1.pn v1.pc a1 _ g1.st (by omega)).mono ?_; rintro e w' ⟨rfl, k, rfl⟩; dsimp only [axc]))
    go_wp2_with fail
    go_ret
    exact ⟨rfl, by repeat (first | exact bel | (refine below_drewN ?_ _) | (refine Below.alloc ?_ (by have := bel.size; simp; try omega) _) | refine Below.drew ?_)⟩
  · have h1' : nearB a1 = false := by simpa using h1
    go_wp2_with (first | (go_at_call 10; refine (near_yes (by assumption) _).mono ?_; rintro e w' ⟨rfl, rfl⟩) | (go_at_call 10; refine (near_no (by assumption) _).mono ?_; rintro e w' ⟨rfl, rfl⟩))
    go_ret
    exact ⟨rfl, by repeat (first | exact bel | (refine below_drewN ?_ _) | (refine Below.alloc ?_ (by have := bel.size; simp; try omega) _) | refine Below.drew ?_)⟩

set_option maxRecDepth 100000 in
set_option maxHeartbeats 1000000 in
theorem monotone_walk (a0 : Option Addr) (len0 cap0 : Nat) (z0 : List Int) (a1 a2 : Int) (w : World) (hr : IsRow .i64 w a0 len0 cap0 z0) :
    Calls Try.prog 5 #[.slice a0 len0 cap0, .int .i64 a1, .int .i64 a2] w fun e w' => e = .returned (.bool true) ∧ Below w.heap.size w w' := by
  go_enter Try.func5, Try.ntmps5
  go_wp2_with fail
  refine (awake_true _).mono ?_
  rintro e wa ⟨rfl, bela⟩
  go_wp2_with fail
  refine (axes_any wa _ _ _ z0 (hr.below bela)).mono ?_
  rintro e wb ⟨v1, v2, v3, rfl, g1, g2, g3, belb, own⟩
  have bel := bela.trans (belb.mono bela.size)
  clear bela belb own
  have i0 := fun W => axis0 v1 v2 v3 W
  simp only [AxisV.cells, List.append_toArray, List.cons_append, List.nil_append] at i0 ⊢
  have hst := g1.st
  obtain ⟨hst1, hst2⟩ := hst
  by_cases h1 : nearB a1 = true
  · have n1 : -67108864 ≤ a1 ∧ a1 ≤ 67108864 := by simpa [nearB] using h1
    by_cases h2 : nearB (a1 + v1.st) = true
    · by_cases h3 : a1 ≤ 67104768
      · obtain ⟨d, hd, d0, d1⟩ : ∃ d, a2 % (v1.st + 1) = d ∧ 0 ≤ d ∧ d ≤ v1.st := ⟨_, rfl, Int.emod_nonneg _ (by omega), by have := Int.emod_lt_of_pos a2 (show 0 < v1.st + 1 by omega); omega⟩
        obtain ⟨m1, m2, m3⟩ := stepOf_mono v1.st a1 d (by omega) ⟨d0, d1⟩
        have hb0 := stepOf_bd v1.st a1 g1.st (by omega)
        have hb1 := stepOf_bd v1.st (a1 + d) g1.st (by omega)
        obtain ⟨hb0, hb0'⟩ := hb0
        obtain ⟨hb1, hb1'⟩ := hb1
        have w1 : IntKind.i64.wrap (a1 + d) = a1 + d := wrap_id _ (by omega) (by omega)
        have w2 : IntKind.i64.wrap (a1 + v1.st) = a1 + v1.st := wrap_id _ (by omega) (by omega)
        have w3 : IntKind.i64.wrap (stepOf v1.st a1 + 1 - stepOf v1.st a1) = 1 := by rw [wrap_id _ (by omega) (by omega)]; omega
        have two : IntKind.i64.wrap (stepOf v1.st (a1 + d) - stepOf v1.st a1) = 0 ∨ IntKind.i64.wrap (stepOf v1.st (a1 + d) - stepOf v1.st a1) = 1 := by
          rw [wrap_id _ (by omega) (by omega)]; omega
        clear m1 m2
        rcases two with w4 | w4
        all_goals
          go_wp2_with (first | (go_at_call 10; refine (near_yes (by assumption) _).mono ?_; rintro e w' ⟨rfl, rfl⟩) | (go_at_call 10; refine (near_no (by assumption) _).mono ?_; rintro e w' ⟨rfl, rfl⟩) | (go_at_call 13; refine (mod_any _ _ _ (by omega) (by omega)).mono ?_; rintro e w' ⟨rfl, rfl⟩; rw [hd]))
          clear hd
          go_region_held3 (fun w' => (w'.cell? ⟨wb.heap.size, 0, none⟩ = some (.int .i64 v1.st) ∧ w'.cell? ⟨wb.heap.size, 1, none⟩ = some (.int .i64 v1.sp) ∧ w'.cell? ⟨wb.heap.size, 2, none⟩ = some (.int .i64 v1.ac) ∧ w'.cell? ⟨wb.heap.size, 3, none⟩ = some (.int .i64 v1.je) ∧ w'.cell? ⟨wb.heap.size, 4, none⟩ = some (.int .i64 (-16777216)) ∧ w'.cell? ⟨wb.heap.size, 5, none⟩ = some (.int .i64 16777216) ∧ w'.cell? ⟨wb.heap.size, 6, none⟩ = some (.int .i64 v1.ba) ∧ w'.cell? ⟨wb.heap.size, 7, none⟩ = some (.int .i64 v1.og) ∧ w'.cell? ⟨wb.heap.size, 8, none⟩ = some (.int .i64 v1.sg) ∧ w'.cell? ⟨wb.heap.size, 9, none⟩ = some (.slice v1.pa v1.pn v1.pc)) ∧ wb.heap.size < w'.heap.size) (simp [go_sem, World.cell?_alloc_past]) (first | (go_at_call 11; refine (steps_any v1.st v1.sp v1.ac v1.je (-16777216) 16777216 v1.ba v1.og v1.sg v1.pa v1.pn v1.pc _ _ g1.st (by omega)).mono ?_; rintro e w' ⟨rfl, k, rfl⟩; dsimp only [axc]))
          go_wp2_with fail
          go_region_held3 (fun w' => (w'.cell? ⟨wb.heap.size, 0, none⟩ = some (.int .i64 v1.st) ∧ w'.cell? ⟨wb.heap.size, 1, none⟩ = some (.int .i64 v1.sp) ∧ w'.cell? ⟨wb.heap.size, 2, none⟩ = some (.int .i64 v1.ac) ∧ w'.cell? ⟨wb.heap.size, 3, none⟩ = some (.int .i64 v1.je) ∧ w'.cell? ⟨wb.heap.size, 4, none⟩ = some (.int .i64 (-16777216)) ∧ w'.cell? ⟨wb.heap.size, 5, none⟩ = some (.int .i64 16777216) ∧ w'.cell? ⟨wb.heap.size, 6, none⟩ = some (.int .i64 v1.ba) ∧ w'.cell? ⟨wb.heap.size, 7, none⟩ = some (.int .i64 v1.og) ∧ w'.cell? ⟨wb.heap.size, 8, none⟩ = some (.int .i64 v1.sg) ∧ w'.cell? ⟨wb.heap.size, 9, none⟩ = some (.slice v1.pa v1.pn v1.pc)) ∧ wb.heap.size < w'.heap.size) (simp [go_sem, World.cell?_alloc_past]) (first | (go_at_call 11; refine (steps_any v1.st v1.sp v1.ac v1.je (-16777216) 16777216 v1.ba v1.og v1.sg v1.pa v1.pn v1.pc _ _ g1.st (by omega)).mono ?_; rintro e w' ⟨rfl, k, rfl⟩; dsimp only [axc]))
          go_wp2_with fail
          go_ret
          exact ⟨rfl, by repeat (first | exact bel | (refine below_drewN ?_ _) | (refine Below.alloc ?_ (by have := bel.size; simp; try omega) _) | refine Below.drew ?_)⟩
      · go_wp2_with (first | (go_at_call 10; refine (near_yes (by assumption) _).mono ?_; rintro e w' ⟨rfl, rfl⟩) | (go_at_call 10; refine (near_no (by assumption) _).mono ?_; rintro e w' ⟨rfl, rfl⟩))
        go_ret
        exact ⟨rfl, by repeat (first | exact bel | (refine below_drewN ?_ _) | (refine Below.alloc ?_ (by have := bel.size; simp; try omega) _) | refine Below.drew ?_)⟩
    · have h2' : nearB (a1 + v1.st) = false := by simpa using h2
      go_wp2_with (first | (go_at_call 10; refine (near_yes (by assumption) _).mono ?_; rintro e w' ⟨rfl, rfl⟩) | (go_at_call 10; refine (near_no (by assumption) _).mono ?_; rintro e w' ⟨rfl, rfl⟩))
      go_ret
      exact ⟨rfl, by repeat (first | exact bel | (refine below_drewN ?_ _) | (refine Below.alloc ?_ (by have := bel.size; simp; try omega) _) | refine Below.drew ?_)⟩
  · have h1' : nearB a1 = false := by simpa using h1
    go_wp2_with (first | (go_at_call 10; refine (near_yes (by assumption) _).mono ?_; rintro e w' ⟨rfl, rfl⟩) | (go_at_call 10; refine (near_no (by assumption) _).mono ?_; rintro e w' ⟨rfl, rfl⟩))
    go_ret
    exact ⟨rfl, by repeat (first | exact bel | (refine below_drewN ?_ _) | (refine Below.alloc ?_ (by have := bel.size; simp; try omega) _) | refine Below.drew ?_)⟩
end Go.Proofs.Ytdopbdcfompodaa

/-
  PocketRectangle returns true. Its arguments: any.
-/
import Derived.Test.YtnbfhdapdlpgiaaRect15
import Derived.Test.YtnbfhdapdlpgiaaCLaw15
namespace Go.Proofs.Ytnbfhdapdlpgiaa
open Go Go.RowKit
set_option linter.unusedVariables false

theorem rect_any (cu cw wd dp step : Int) (w : World) :
    Calls Try.prog 19 #[.agg #[.int .i64 cu, .int .i64 cw], .int .i64 wd, .int .i64 dp, .int .i64 step] w (Out w (rectR cu cw wd dp step).1 (rectR cu cw wd dp step).2) := by
  by_cases h : goodR cu cw wd dp step ∧ rgN (mxx wd dp) step ≤ 1000
  · rw [rectR_ok h.1 h.2]
    exact rect_main cu cw wd dp step w h.1 h.2
  · exact rect_early cu cw wd dp step w h
theorem plain_rec (cu cw wd dp size : Int) (rs : List Int) : ∀ c ∈ recL cu cw wd dp size rs, Plain c := by
  intro c hc
  obtain ⟨r, _, hr⟩ := List.mem_flatMap.1 hc
  simp only [ringR, List.mem_cons, List.not_mem_nil, or_false] at hr
  rcases hr with rfl | rfl | rfl | rfl | rfl <;> exact plain_line _ _
theorem plain_rect (cu cw wd dp step : Int) : ∀ c ∈ rectL cu cw wd dp step, Plain c := by
  intro c hc
  unfold rectL at hc
  rcases List.mem_append.1 hc with h | h
  · exact plain_rec _ _ _ _ _ _ c h
  · simp at h; subst h; exact plain_line _ _
theorem plain_rectR (cu cw wd dp step : Int) : ∀ c ∈ (rectR cu cw wd dp step).1, Plain c := by
  unfold rectR
  split
  · split
    · exact plain_rect _ _ _ _ _
    · simp
  · simp
theorem rectL_len (cu cw wd dp step : Int) : (rectL cu cw wd dp step).length = 5 * rgN (mxx wd dp) step + 1 := by
  unfold rectL
  rw [List.length_append, recL_len, ringsL_len, List.length_singleton]
theorem rectR_len (cu cw wd dp step : Int) : (rectR cu cw wd dp step).1.length ≤ 5001 := by
  unfold rectR
  split
  · split
    · rename_i hN
      dsimp only
      rw [rectL_len]
      omega
    · simp
  · simp

set_option maxRecDepth 100000 in
set_option maxHeartbeats 2000000 in
theorem rect_walk (c : List Value) (a1 a2 a3 : Int) (w : World) (hc : Leaves w ptKs c) : Calls Try.prog 7 #[.agg c.toArray, .int .i64 a1, .int .i64 a2, .int .i64 a3] w fun e w' => e = .returned (.bool true) ∧ Below w.heap.size w w' := by
  obtain ⟨u0, v0, e⟩ := pt_cells hc
  rw [e]
  clear e hc
  go_enter Try.func7, Try.ntmps7
  go_wp2_with fail
  go_loopw [9, 1, 2, 3] (fun s7 s1 s2 s3 wr => ∃ (j : Nat) (u v r d s : Int), j ≤ 2 ∧ s7 = .int .i64 j ∧ s1 = .int .i64 r ∧ s2 = .int .i64 d ∧ s3 = .int .i64 s ∧ Blk wr w.heap.size 29 #[.int .i64 u, .int .i64 v] ∧ Below w.heap.size w wr)
    (fun s7 _ _ _ _ => 2 - (intOf s7).toNat)
  case atStart => exact ⟨0, u0, v0, a1, a2, a3, by omega, rfl, rfl, rfl, rfl, Blk.new _ _ _, (Below.refl _ _).alloc (Nat.le_refl _) _⟩
  case round =>
    obtain ⟨j, u, v, r, d, s, hj, rfl, rfl, rfl, rfl, hb, bel⟩ := hrel
    by_cases hlt : j < 2
    · have hc := fun W => rect_any u v r d s W
      have hr := fun W => rrect_any u v r d s W
      have hp := plain_rectR u v r d s
      have hl := rectR_len u v r d s
      generalize rectR u v r d s = R at *
      obtain ⟨L, er⟩ := R
      dsimp only at hc hr hp hl
      have b1 := fun W => between_any r 0 3000 W (by omega) (by omega) (by omega) (by omega)
      have b2 := fun W => between_any d 0 3000 W (by omega) (by omega) (by omega) (by omega)
      have b3 := fun W => between_any s 0 600 W (by omega) (by omega) (by omega) (by omega)
      generalize 0 + r % (3000 - 0 + 1) = r' at *
      generalize 0 + d % (3000 - 0 + 1) = d' at *
      generalize 0 + s % (600 - 0 + 1) = s' at *
      have HC := Lib.hid hc
      have HR := Lib.hid hr
      have HP := Lib.hid hp
      have B1 := Lib.hid b1
      have B2 := Lib.hid b2
      have B3 := Lib.hid b3
      have x0 := hb.cell' 0 rfl
      have x1 := hb.cell' 1 rfl
      have hj1 : (j : Int) < 2 := by omega
      clear hc hr hp b1 b2 b3
      go_wp2_with fail
      refine (HC.out _).mono ?_
      rintro e w1 ⟨p1, k1, rfl, own1, bel1⟩
      have it1 := ItemsAt.own own1 (fun c hc => (HP.out c hc).1)
      have hb1 := hb.below bel1 hb.lt
      have bf1 := bel.trans (bel1.mono bel.size)
      have y0 := hb1.cell' 0 rfl
      have y1 := hb1.cell' 1 rfl
      have IT1 := Lib.hid it1
      clear own1 bel1 hb x0 x1 bel it1
      go_wp2_with fail
      refine (HR.out _).mono ?_
      rintro e w2 ⟨p2, k2, rfl, own2, bel2⟩
      have it2 := ItemsAt.own own2 (fun c hc => (HP.out c hc).1)
      have it1' := IT1.out.below bel2
      have hb2 := hb1.below bel2 hb1.lt
      have bf2 := bf1.trans (bel2.mono bf1.size)
      clear own2 bel2 hb1 y0 y1 bf1 IT1
      go_wp2_with fail
      refine (same_same p1 p2 k1 k2 L _ it1' it2 HP.out (by omega)).mono ?_
      rintro e w3 ⟨rfl, bel3⟩
      have hb3 := hb2.below bel3 hb2.lt
      have bf3 := bf2.trans (bel3.mono bf2.size)
      have y0 := hb3.cell' 0 rfl
      have y1 := hb3.cell' 1 rfl
      clear it1' it2 bel3 hb2 bf2
      go_wp2_with fail
      refine (center_any u v _).mono ?_
      rintro e w4 ⟨rfl, bel4⟩
      have hb4 := hb3.below bel4 hb3.lt
      have bf4 := bf3.trans (bel4.mono bf3.size)
      have z0 := hb4.cell' 0 rfl
      have z1 := hb4.cell' 1 rfl
      have f0 := hb4.frozen 0
      have f1 := hb4.frozen 1
      have fin := (hb4.put 0 (.int .i64 (cenV u))).put 1 (.int .i64 (cenV v))
      have belf := (bf4.setCell (p := ⟨w.heap.size, 0, none⟩) (Nat.le_refl _) (.int .i64 (cenV u))).setCell (p := ⟨w.heap.size, 1, none⟩) (Nat.le_refl _) (.int .i64 (cenV v))
      clear bel4 hb3 bf3 y0 y1
      go_wp2_with fail
      refine (B1.out _).mono ?_
      rintro e w' ⟨rfl, rfl⟩
      go_wp2_with fail
      refine (B2.out _).mono ?_
      rintro e w' ⟨rfl, rfl⟩
      go_wp2_with fail
      refine (B3.out _).mono ?_
      rintro e w' ⟨rfl, rfl⟩
      go_wp2_with fail
      go_roundw
      case rel => exact ⟨j + 1, cenV u, cenV v, r', d', s', by omega, by go_num, rfl, rfl, rfl, fin, belf⟩
      case measure => simp [intOf]; omega
    · obtain rfl : j = 2 := by omega
      go_wp2_with fail
      refine (awake_true _).mono ?_
      rintro e wa ⟨rfl, bela⟩
      have bf := bel.trans (bela.mono bel.size)
      go_wp2_with fail
      go_ret
      exact ⟨rfl, bf⟩
end Go.Proofs.Ytnbfhdapdlpgiaa

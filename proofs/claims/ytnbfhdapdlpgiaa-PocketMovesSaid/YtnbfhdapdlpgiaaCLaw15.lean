/-
  PocketCircle returns true. Its arguments: any.
-/
import Derived.Test.YtnbfhdapdlpgiaaLaws15
namespace Go.Proofs.Ytnbfhdapdlpgiaa
open Go Go.RowKit
set_option linter.unusedVariables false

/-- A point that came in: two integers. -/
theorem pt_cells {w : World} {c : List Value} (h : Leaves w ptKs c) : ∃ u v : Int, c.toArray = #[.int .i64 u, .int .i64 v] := by
  unfold ptKs at h
  obtain ⟨v0, c, rfl, h0, h⟩ := h.cons
  obtain ⟨v1, c, rfl, h1, h⟩ := h.cons
  cases h.end
  obtain ⟨z0, rfl, _⟩ := h0.num
  obtain ⟨z1, rfl, _⟩ := h1.num
  exact ⟨z0, z1, rfl⟩

set_option maxRecDepth 100000 in
set_option maxHeartbeats 2000000 in
theorem circle_walk (c : List Value) (a1 a2 : Int) (w : World) (hc : Leaves w ptKs c) : Calls Try.prog 4 #[.agg c.toArray, .int .i64 a1, .int .i64 a2] w fun e w' => e = .returned (.bool true) ∧ Below w.heap.size w w' := by
  obtain ⟨u0, v0, e⟩ := pt_cells hc
  rw [e]
  clear e hc
  go_enter Try.func4, Try.ntmps4
  go_wp2_with fail
  go_loopw [7, 1, 2] (fun s7 s1 s2 wr => ∃ (j : Nat) (u v r s : Int), j ≤ 2 ∧ s7 = .int .i64 j ∧ s1 = .int .i64 r ∧ s2 = .int .i64 s ∧ Blk wr w.heap.size 29 #[.int .i64 u, .int .i64 v] ∧ Below w.heap.size w wr)
    (fun s7 _ _ _ => 2 - (intOf s7).toNat)
  case atStart => exact ⟨0, u0, v0, a1, a2, by omega, rfl, rfl, rfl, Blk.new _ _ _, (Below.refl _ _).alloc (Nat.le_refl _) _⟩
  case round =>
    obtain ⟨j, u, v, r, s, hj, rfl, rfl, rfl, hb, bel⟩ := hrel
    by_cases hlt : j < 2
    · have hc := fun W => circle_any u v r s W
      have hr := fun W => rcircle_any u v r s W
      have hp := plain_circleR u v r s
      have hl := circleR_len u v r s
      generalize circleR u v r s = R at *
      obtain ⟨L, er⟩ := R
      dsimp only at hc hr hp hl
      have b1 := fun W => between_any r 1 3000 W (by omega) (by omega) (by omega) (by omega)
      have b2 := fun W => between_any s 7 600 W (by omega) (by omega) (by omega) (by omega)
      generalize 1 + r % (3000 - 1 + 1) = r' at *
      generalize 7 + s % (600 - 7 + 1) = s' at *
      have HC := Lib.hid hc
      have HR := Lib.hid hr
      have HP := Lib.hid hp
      have B1 := Lib.hid b1
      have B2 := Lib.hid b2
      have x0 := hb.cell' 0 rfl
      have x1 := hb.cell' 1 rfl
      have hj1 : (j : Int) < 2 := by omega
      clear hc hr hp b1 b2
      go_wp2_with fail
      refine (HC.out _).mono ?_
      rintro e w1 ⟨p1, k1, rfl, own1, bel1⟩
      have it1 := ItemsAt.own own1 (fun c hc => (HP.out c hc).1)
      have hb1 := hb.below bel1 hb.lt
      have bf1 := bel.trans (bel1.mono bel.size)
      have y0 := hb1.cell' 0 rfl
      have y1 := hb1.cell' 1 rfl
      have IT1 := Lib.hid it1
      clear own1 bel1 hb x0 x1 bel it1
      go_wp2_with fail
      refine (HR.out _).mono ?_
      rintro e w2 ⟨p2, k2, rfl, own2, bel2⟩
      have it2 := ItemsAt.own own2 (fun c hc => (HP.out c hc).1)
      have it1' := IT1.out.below bel2
      have hb2 := hb1.below bel2 hb1.lt
      have bf2 := bf1.trans (bel2.mono bf1.size)
      clear own2 bel2 hb1 y0 y1 bf1 IT1
      go_wp2_with fail
      refine (same_same p1 p2 k1 k2 L _ it1' it2 HP.out (by omega)).mono ?_
      rintro e w3 ⟨rfl, bel3⟩
      have hb3 := hb2.below bel3 hb2.lt
      have bf3 := bf2.trans (bel3.mono bf2.size)
      have y0 := hb3.cell' 0 rfl
      have y1 := hb3.cell' 1 rfl
      clear it1' it2 bel3 hb2 bf2
      go_wp2_with fail
      refine (center_any u v _).mono ?_
      rintro e w4 ⟨rfl, bel4⟩
      have hb4 := hb3.below bel4 hb3.lt
      have bf4 := bf3.trans (bel4.mono bf3.size)
      have z0 := hb4.cell' 0 rfl
      have z1 := hb4.cell' 1 rfl
      have f0 := hb4.frozen 0
      have f1 := hb4.frozen 1
      have fin := (hb4.put 0 (.int .i64 (cenV u))).put 1 (.int .i64 (cenV v))
      have belf := (bf4.setCell (p := ⟨w.heap.size, 0, none⟩) (Nat.le_refl _) (.int .i64 (cenV u))).setCell (p := ⟨w.heap.size, 1, none⟩) (Nat.le_refl _) (.int .i64 (cenV v))
      clear bel4 hb3 bf3 y0 y1
      go_wp2_with fail
      refine (B1.out _).mono ?_
      rintro e w' ⟨rfl, rfl⟩
      go_wp2_with fail
      refine (B2.out _).mono ?_
      rintro e w' ⟨rfl, rfl⟩
      go_wp2_with fail
      go_roundw
      case rel => exact ⟨j + 1, cenV u, cenV v, r', s', by omega, by go_num, rfl, rfl, fin, belf⟩
      case measure => simp [intOf]; omega
    · obtain rfl : j = 2 := by omega
      go_wp2_with fail
      refine (awake_true _).mono ?_
      rintro e wa ⟨rfl, bela⟩
      have bf := bel.trans (bela.mono bel.size)
      go_wp2_with fail
      go_ret
      exact ⟨rfl, bf⟩
end Go.Proofs.Ytnbfhdapdlpgiaa

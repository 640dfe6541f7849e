/-
  The sanity check of chapter 15, and what 'center' leaves.
-/
import Derived.Test.YtnbfhdapdlpgiaaItems15
import Derived.Test.YtnbfhdapdlpgiaaGd
namespace Go.Proofs.Ytnbfhdapdlpgiaa
open Go Go.RowKit
set_option linter.unusedVariables false

theorem circle_awake (w : World) : Calls Try.prog 15 #[.agg #[.int .i64 0, .int .i64 0], .int .i64 20, .int .i64 10] w (Out w [lineL 10 0, turnL 10 0 0 0, lineL 20 0, turnL 20 0 0 0, lineL 0 0] 0) := by
  have h := circle_any 0 0 20 10 w
  have e : circleR 0 0 20 10 = ([lineL 10 0, turnL 10 0 0 0, lineL 20 0, turnL 20 0 0 0, lineL 0 0], 0) := by
    rw [circleR_ok (by unfold goodC; omega) (by decide)]
    rfl
  rw [e] at h
  exact h

theorem eql_turn (W : World) : (binOp .eql 40 (.agg (turnL 10 0 0 0).toArray) (.agg (turnL 10 0 0 0).toArray)).run Try.prog W = .ok (.bool true) W := by unfold turnL; go_simp
set_option maxRecDepth 100000 in
set_option maxHeartbeats 1000000 in
theorem awake_true (w : World) : Calls Try.prog 11 #[] w fun e w' => e = .returned (.bool true) ∧ Below w.heap.size w w' := by
  go_enter Try.func11, Try.ntmps11
  go_wp2_with fail
  refine (circle_awake _).mono ?_
  rintro e wc ⟨a, c, rfl, own, bel⟩
  have hit := ItemsAt.own own (by intro c hc; simp at hc; rcases hc with rfl | rfl | rfl | rfl | rfl <;> rfl)
  obtain ⟨b, o, rfl, _, hc⟩ := hit 1 (turnL 10 0 0 0) rfl
  rw [Nat.one_mul] at hc
  have HC : Hid (wc.rangeAt b (o + 22) (turnL 10 0 0 0)) := Lib.hid hc
  clear hit own hc
  simp only [List.length_cons, List.length_nil, Nat.zero_add, Nat.reduceAdd]
  go_wp2_with (first
    | ((with_reducible refine gd_load_mid 40 (.tmp 17) b (o + 22) (turnL 10 0 0 0) _ (by with_unfolding_all rfl) (by with_unfolding_all rfl) HC.out Try.underlying40 (by with_unfolding_all rfl) (by with_unfolding_all kernel_rfl) ?_))
    | ((with_reducible refine gd_built 40 _ (turnL 10 0 0 0).toArray (by with_unfolding_all rfl) (by with_unfolding_all kernel_rfl) ?_))
    | ((with_reducible refine gd_eql 40 40 (.tmp 18) (.tmp 20) (turnL 10 0 0 0).toArray (turnL 10 0 0 0).toArray true (by with_unfolding_all rfl) (by with_unfolding_all rfl) (by with_unfolding_all rfl) (by with_unfolding_all kernel_rfl) (eql_turn _) ?_)))
  refine (Rings_any 25 10 _ (by omega)).mono ?_
  rintro e wr ⟨v, rfl, ownr, belr⟩
  rw [show RingsRow 25 10 = [10, 20, 25] by unfold RingsRow; rw [if_pos (by decide)]; rfl] at ownr
  obtain ⟨ra, rc, rfl⟩ := own_form ownr
  have h1 := IntsAt.own ownr
  have hz := fun o => h1.below ((Below.refl wr.heap.size wr).alloc (Nat.le_refl _) o)
  have HZ := Lib.hid hz
  have bel2 := bel.trans (belr.mono bel.size)
  clear hz h1 ownr belr bel
  go_wp2_with fail
  refine (sameInts_same ra (some ⟨wr.heap.size, 0, none⟩) 3 rc 3 (fun i => [10, 20, 25].getD i 0) _ (HZ.out _) (fun i hi => ?_) (by omega)).mono ?_
  · refine ⟨wr.heap.size, 0, rfl, by simp, ?_⟩
    have : i = 0 ∨ i = 1 ∨ i = 2 := by omega
    rcases this with rfl | rfl | rfl <;> simp [World.cell?_alloc_new]
  rintro e w2 ⟨rfl, bel3⟩
  have belf := (bel2.alloc bel2.size (.cells #[.int .i64 10, .int .i64 20, .int .i64 25] 3)).trans (bel3.mono (by have := bel2.size; simp; omega))
  go_wp2_with fail
  go_ret
  exact ⟨rfl, belf⟩

/-- What 'center' makes of a number. -/
def cenV (v : Int) : Int := -1048576 + v % 2097153
theorem cen_bd (v : Int) : -1048576 ≤ cenV v ∧ cenV v ≤ 1048576 := by unfold cenV; omega
theorem cen_any (v : Int) (w : World) : Calls Try.prog 10 #[.int .i64 v, .int .i64 (-1048576), .int .i64 1048576] w fun e w' => e = .returned (.int .i64 (cenV v)) ∧ w = w' := by
  have := between_any v (-1048576) 1048576 w (by omega) (by omega) (by omega) (by omega)
  exact this

set_option maxRecDepth 100000 in
theorem center_any (u v : Int) (w : World) : Calls Try.prog 18 #[.agg #[.int .i64 u, .int .i64 v]] w fun e w' => e = .returned (.agg #[.int .i64 (cenV u), .int .i64 (cenV v)]) ∧ Below w.heap.size w w' := by
  have n1 := World.new_ne (w.alloc (.cells #[.int .i64 u, .int .i64 v] 29)) ⟨w.heap.size, 0, none⟩ (u := .int .i64 u) (by simp [go_sem])
  go_enter Try.func18, Try.ntmps18
  go_wp2_with fail
  go_region_held3 (fun w' => w'.cell? ⟨w.heap.size, 0, none⟩ = some (.int .i64 u) ∧ w'.cell? ⟨w.heap.size, 1, none⟩ = some (.int .i64 v)) (go_keep)
    (first
      | (go_at_call_of 10 (Value.int .i64 u); refine (cen_any u _).mono ?_; rintro e w' ⟨rfl, rfl⟩)
      | (go_at_call 10; refine (cen_any _ _).mono ?_; rintro e w' ⟨rfl, rfl⟩))
  all_goals
    go_wp2_with fail
    exact bodyPost_ret (v := .agg #[.int .i64 (cenV u), .int .i64 (cenV v)]) (by simp [results, Try.results18, go_sem]) rfl ⟨rfl, (((Below.refl _ _).alloc (Nat.le_refl _) _).alloc (by simp) _).drew⟩

theorem RingsRow_len (size step : Int) : (RingsRow size step).length ≤ 1000 := by
  unfold RingsRow
  split
  · rename_i h
    rw [ringsL_len]
    exact h.2.2
  · simp
theorem int_max {n : Int} (h : (Lit.int .i64 n).wf = true) : n ≤ 9223372036854775807 := by
  simp [Lit.wf, IntKind.max, IntKind.min, IntKind.signed, IntKind.bits] at h
  omega

set_option maxRecDepth 100000 in
set_option maxHeartbeats 1000000 in
/-- PocketRings returns true. -/
theorem rings_walk (a0 a1 : Int) (w : World) (h0 : (Lit.int .i64 a0).wf = true) : Calls Try.prog 3 #[.int .i64 a0, .int .i64 a1] w fun e w' => e = .returned (.bool true) ∧ Below w.heap.size w w' := by
  have hm := int_max h0
  have b1 := fun W => between_any a0 1 9000 W (by omega) (by omega) (by omega) (by omega)
  have b2 := fun W => between_any a1 8 900 W (by omega) (by omega) (by omega) (by omega)
  have hmb := between_bd a0 1 9000 (by omega)
  generalize 1 + a0 % (9000 - 1 + 1) = m at *
  generalize 8 + a1 % (900 - 8 + 1) = n at *
  have B1 := Lib.hid b1
  have B2 := Lib.hid b2
  clear b1 b2 h0
  go_enter Try.func3, Try.ntmps3
  go_wp2_with fail
  refine (B1.out _).mono ?_
  rintro e w' ⟨rfl, rfl⟩
  go_wp2_with fail
  refine (B2.out _).mono ?_
  rintro e w' ⟨rfl, rfl⟩
  go_wp2_with fail
  refine (awake_true _).mono ?_
  rintro e wa ⟨rfl, bela⟩
  go_wp2_with fail
  refine (Rings_any a0 a1 _ hm).mono ?_
  rintro e w1 ⟨v1, rfl, own1, bel1⟩
  obtain ⟨x1, c1, rfl⟩ := own_form own1
  have i1 := IntsAt.own own1
  have bf1 := bela.trans (bel1.mono bela.size)
  clear own1 bela bel1
  go_wp2_with fail
  refine (rRings_any a0 a1 _ hm).mono ?_
  rintro e w2 ⟨v2, rfl, own2, bel2⟩
  obtain ⟨x2, c2, rfl⟩ := own_form own2
  have i2 := IntsAt.own own2
  have i1' := i1.below bel2
  have bf2 := bf1.trans (bel2.mono bf1.size)
  clear own2 bel2 bf1 i1
  go_wp2_with fail
  refine (sameInts_same x1 x2 _ c1 c2 _ _ i1' i2 (by have := RingsRow_len a0 a1; omega)).mono ?_
  rintro e w3 ⟨rfl, bel3⟩
  have bf3 := bf2.trans (bel3.mono bf2.size)
  clear i1' i2 bel3 bf2
  go_wp2_with fail
  refine (Rings_any m n _ (by omega)).mono ?_
  rintro e w4 ⟨v1, rfl, own1, bel1⟩
  obtain ⟨x3, c3, rfl⟩ := own_form own1
  have i1 := IntsAt.own own1
  have bf4 := bf3.trans (bel1.mono bf3.size)
  clear own1 bf3 bel1
  go_wp2_with fail
  refine (rRings_any m n _ (by omega)).mono ?_
  rintro e w5 ⟨v2, rfl, own2, bel2⟩
  obtain ⟨x4, c4, rfl⟩ := own_form own2
  have i2 := IntsAt.own own2
  have i1' := i1.below bel2
  have bf5 := bf4.trans (bel2.mono bf4.size)
  clear own2 bel2 bf4 i1
  go_wp2_with fail
  refine (sameInts_same x3 x4 _ c3 c4 _ _ i1' i2 (by have := RingsRow_len m n; omega)).mono ?_
  rintro e w6 ⟨rfl, bel3⟩
  have bf6 := bf5.trans (bel3.mono bf5.size)
  clear i1' i2 bel3 bf5
  go_wp2_with fail
  go_ret
  exact ⟨rfl, bf6⟩
end Go.Proofs.Ytnbfhdapdlpgiaa

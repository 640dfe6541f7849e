/-
  PocketSteps returns true. Its arguments: any.
-/
import Derived.Test.YtnbfhdapdlpgiaaLaws15
namespace Go.Proofs.Ytnbfhdapdlpgiaa
open Go Go.RowKit
set_option linter.unusedVariables false

theorem wrap_id (n : Int) (h1 : -9223372036854775808 ≤ n) (h2 : n ≤ 9223372036854775807) : IntKind.i64.wrap n = n := by
  rw [IntKind.wrap_i64]; omega

set_option maxRecDepth 100000 in
set_option maxHeartbeats 4000000 in
theorem steps_walk (a0 a1 : Int) (w : World) : Calls Try.prog 5 #[.int .i64 a0, .int .i64 a1] w fun e w' => e = .returned (.bool true) ∧ Below w.heap.size w w' := by
  have b1 := fun W => between_any a0 1 90000 W (by omega) (by omega) (by omega) (by omega)
  have b2 := fun W => between_any a1 100 9000 W (by omega) (by omega) (by omega) (by omega)
  have hs := between_bd a0 1 90000 (by omega)
  have ht := between_bd a1 100 9000 (by omega)
  generalize 1 + a0 % (90000 - 1 + 1) = s at *
  generalize 100 + a1 % (9000 - 100 + 1) = t at *
  obtain ⟨s1, s2⟩ := hs
  obtain ⟨t1, t2⟩ := ht
  have B1 := Lib.hid b1
  have B2 := Lib.hid b2
  clear b1 b2
  have hN : rgN s t ≤ 900 := rgN_le s1 (by omega) (by omega)
  have hpos := rgN_pos s1 (show 1 ≤ t by omega)
  have hrr : RingsRow s t = ringsL s t := if_pos ⟨s1, by omega, by omega⟩
  have HRR := Lib.hid hrr
  clear hrr
  go_enter Try.func5, Try.ntmps5
  go_wp2_with fail
  refine (B1.out _).mono ?_
  rintro e w' ⟨rfl, rfl⟩
  go_wp2_with fail
  refine (B2.out _).mono ?_
  rintro e w' ⟨rfl, rfl⟩
  go_wp2_with fail
  refine (Rings_any s t _ (by omega)).mono ?_
  rintro e w1 ⟨v, rfl, own, bel⟩
  rw [HRR.out, ringsL_len] at own
  obtain ⟨a, c, rfl⟩ := own_form own
  have hi : IntsAt w1 a (rgN s t) (fun i => (ringsL s t).getD i 0) := IntsAt.own own
  have hcell : ∃ b o, a = some ⟨b, o, none⟩ ∧ b < w1.heap.size ∧ ∀ i, i < rgN s t → w1.cell? ⟨b, o + i, none⟩ = some (.int .i64 (ring s t i)) := by
    obtain ⟨b, o, e, hb, _⟩ := hi 0 (by omega)
    refine ⟨b, o, e, hb, fun i h => ?_⟩
    obtain ⟨b', o', e', _, hc⟩ := hi i h
    rw [e] at e'
    cases e'
    rw [hc]
    simp [List.getD, ringsL_at h]
  obtain ⟨b, o, rfl, hbl, hcell⟩ := hcell
  have HC := Lib.hid hcell
  clear own hi hcell
  go_wp2_with fail
  refine (awake_true _).mono ?_
  rintro e wa ⟨rfl, bela⟩
  have belw := bel.trans (bela.mono bel.size)
  have hca : ∀ i, i < rgN s t → wa.cell? ⟨b, o + i, none⟩ = some (.int .i64 (ring s t i)) := fun i h => (bela.cell (p := ⟨b, o + i, none⟩) hbl).trans (HC.out i h)
  have HCA := Lib.hid hca
  clear bela HC bel hca
  have hlast := HCA.out (rgN s t - 1) (by omega)
  rw [ring_last (by omega)] at hlast
  have hfirst := HCA.out 0 (by omega)
  have hf := ring_first s1 (show 1 ≤ t by omega)
  rw [Nat.add_zero] at hfirst
  have HR := Lib.hid (fun k (h : k + 1 < rgN s t) => ring_le s1 (show 1 ≤ t by omega) h)
  have HB := Lib.hid (fun k (h : k < rgN s t) => ring_bd s1 (show 1 ≤ t by omega) h)
  generalize hr0 : ring s t 0 = r0 at hfirst hf
  clear hr0
  generalize rgN s t = n at *
  have d0 : ((n : Int) == 0) = false := by simp; omega
  have d1 : decide ((1000 : Int) < (n : Int)) = false := by simp; omega
  have d2 : decide (t < r0) = false := by simp; omega
  have i1 : (0 : Int) ≤ (n : Int) - 1 := by omega
  have i2 : (n : Int) - 1 < (n : Int) := by omega
  have i3 : ((n : Int) - 1).toNat = n - 1 := by omega
  have i4 : (0 : Int) < (n : Int) := by omega
  have i5 : 0 < n := by omega
  go_wp2_with fail
  go_loopw [6] (fun v6 wr => ∃ k q : Nat, 1 ≤ k ∧ k ≤ n ∧ v6 = .int .i64 k ∧ wr = wa.drewN q) (fun v6 _ => n - (intOf v6).toNat)
  case atStart => exact ⟨1, 0, by omega, by omega, rfl, rfl⟩
  case round =>
    obtain ⟨k, q, hk1, hk, rfl, rfl⟩ := hrel
    have belq := below_drewN belw q
    by_cases hlt : k < n
    · have cx := HCA.out k hlt
      have cy := HCA.out (k - 1) (by omega)
      have hr := HR.out (k - 1) (by omega)
      rw [show k - 1 + 1 = k by omega] at hr
      have hx := HB.out k hlt
      have hy := HB.out (k - 1) (by omega)
      generalize ring s t k = x at cx hr hx
      generalize ring s t (k - 1) = y at cy hr hy
      obtain ⟨hr1, hr2, hr3⟩ := hr
      have j1 : (0 : Int) ≤ (k : Int) := by omega
      have j2 : (k : Int) < (n : Int) := by omega
      have j3 : (0 : Int) ≤ (k : Int) - 1 := by omega
      have j4 : (k : Int) - 1 < (n : Int) := by omega
      have j5 : ((k : Int) - 1).toNat = k - 1 := by omega
      have j6 : IntKind.i64.wrap ((k : Int) - 1) = (k : Int) - 1 := wrap_id _ (by omega) (by omega)
      have j7 : IntKind.i64.wrap (x - y) = x - y := wrap_id _ (by omega) (by omega)
      have j8 : IntKind.i64.wrap ((n : Int) - 1) = (n : Int) - 1 := wrap_id _ (by omega) (by omega)
      have e1 : decide (x ≤ y) = false := by simp; omega
      have e2 : decide (t < x - y) = false := by simp; omega
      by_cases hl : k + 1 < n
      · have e3 : decide ((k : Int) < (n : Int) - 1) = true := by simp; omega
        have e4 : ((x - y) == t) = true := by simp; have := hr3 (by omega); omega
        have e5 : ((x - y) != t) = false := by simp; have := hr3 (by omega); omega
        clear hr1 hr2 hr3 hx hy i1 i2 i3 i4 i5 hlast hfirst hf d2 hl
        go_wp2_with fail
        go_quiet (fail)
        go_wp2_with fail
        go_roundw
        case rel => exact ⟨k + 1, _, by omega, by omega, by go_num, by first | rfl | rw [World.drewN_drewN]⟩
        case measure => simp [intOf]; omega
      · have e3 : decide ((k : Int) < (n : Int) - 1) = false := by simp; omega
        clear hr1 hr2 hr3 hx hy i1 i2 i3 i4 i5 hlast hfirst hf d2 hl
        go_wp2_with fail
        go_quiet (fail)
        go_wp2_with fail
        go_roundw
        case rel => exact ⟨k + 1, _, by omega, by omega, by go_num, by first | rfl | rw [World.drewN_drewN]⟩
        case measure => simp [intOf]; omega
    · obtain rfl : k = n := by omega
      go_wp2_with fail
      go_ret
      exact ⟨rfl, belq⟩
end Go.Proofs.Ytnbfhdapdlpgiaa

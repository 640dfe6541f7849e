/-
  What cncref26.Valid leaves where all tests but the table's pass.
-/
import Derived.Test.YtdopbdcfompodaaValidA
namespace Go.Proofs.Ytdopbdcfompodaa
open Go Go.RowKit
set_option linter.unusedVariables false

set_option maxRecDepth 100000 in
set_option maxHeartbeats 2000000 in
theorem rvalid_loop (st sp ac je lo hi ba og sg : Int) (pa : Option Addr) (pn pc : Nat) (z : Nat → Int) (w : World) (hz : IntsAt w pa pn z) (R : Bool) (hp0 : pn ≠ 0) (h64 : (pn : Int) ≤ 64)
    (m1 : 4 ≤ st) (m2 : st ≤ 4096) (m3 : 1 ≤ sp) (m4 : sp ≤ 1048576) (m5 : 2 ≤ ac) (m6 : ac ≤ 1048576) (m7 : 4 ≤ je) (m8 : je ≤ 1048576) (t1 : -16777216 ≤ lo) (t2 : hi ≤ 16777216) (t3 : lo ≤ hi) (t4 : 0 ≤ ba) (t5 : ba ≤ 64)
    (g1 : -16777216 ≤ og) (g2 : og ≤ 16777216) (g3 : 4 ≤ sg) (g4 : sg ≤ 16777216) (yes : (∀ i, i < pn → knot z sg i) → R = true) (no : ∀ i, i < pn → ¬ knot z sg i → R = false) :
    Calls Try.prog 16 #[.agg (axc st sp ac je lo hi ba og sg pa pn pc)] w fun e w' => e = .returned (.bool R) ∧ Below w.heap.size w w' := by
  have bel := (Below.refl w.heap.size w).alloc (Nat.le_refl _) (.cells #[.int .i64 st, .int .i64 sp, .int .i64 ac, .int .i64 je, .int .i64 lo, .int .i64 hi, .int .i64 ba, .int .i64 og, .int .i64 sg, .slice pa pn pc] 25)
  have d0 : ((pn : Int) == 0) = false := by simp; omega
  obtain ⟨s4, hs4⟩ : ∃ s4, sg.tdiv 4 = s4 := ⟨_, rfl⟩
  have hs4' : 1 ≤ s4 ∧ s4 ≤ 4194304 := by rw [← hs4, Int.tdiv_eq_ediv_of_nonneg (by omega)]; omega
  obtain ⟨hs41, hs42⟩ := hs4'
  have YES := Lib.hid yes
  have NO := Lib.hid no
  clear yes no
  unfold axc
  go_enter Try.func16, Try.ntmps16
  go_wp2_with fail
  go_loopw [99] (fun v99 wr => ∃ k q : Nat, k ≤ pn ∧ v99 = .int .i64 k ∧ (∀ i, i < k → knot z sg i) ∧ wr = (w.alloc (.cells #[.int .i64 st, .int .i64 sp, .int .i64 ac, .int .i64 je, .int .i64 lo, .int .i64 hi, .int .i64 ba, .int .i64 og, .int .i64 sg, .slice pa pn pc] 25)).drewN q)
    (fun v99 _ => pn - (intOf v99).toNat)
  case atStart => exact ⟨0, 0, by omega, rfl, fun i hi => by omega, rfl⟩
  case round =>
    obtain ⟨k, q, hk, rfl, hkn, rfl⟩ := hrel
    have belq := below_drewN bel q
    by_cases hlt : k < pn
    · obtain ⟨b, o, rfl, hbl, hc⟩ := hz k hlt
      have i1 : (0 : Int) ≤ (k : Int) := by omega
      have i2 : (k : Int) < (pn : Int) := by omega
      have rng : (-4096 ≤ z k ∧ z k ≤ 4096) ∨ z k < -4096 ∨ (-4096 ≤ z k ∧ 4096 < z k) := by omega
      rcases rng with ⟨r1, r2⟩ | rng
      · by_cases k0 : k = 0
        · subst k0
          have hkn' : ∀ i, i < 0 + 1 → knot z sg i := by
            intro i hi
            obtain rfl : i = 0 := by omega
            exact ⟨⟨r1, r2⟩, fun h => by omega⟩
          rw [Nat.add_zero] at hc
          generalize z 0 = zk at hc r1 r2
          go_wp2_with fail
          go_quiet (fail)
          go_wp2_with fail
          go_roundw
          case rel => exact ⟨1, _, by omega, rfl, hkn', by first | rfl | rw [World.drewN_drewN]⟩
          case measure => simp [intOf]; omega
        · obtain ⟨_, b', o', eb, hbl', hc'⟩ : ∃ u : Unit, ∃ b' o', some (⟨b, o, none⟩ : Addr) = some ⟨b', o', none⟩ ∧ b' < w.heap.size ∧ w.cell? ⟨b', o' + (k - 1), none⟩ = some (.int .i64 (z (k - 1))) := ⟨(), hz (k - 1) (by omega)⟩
          cases eb
          have hp := (hkn (k - 1) (by omega)).1
          have i3 : (0 : Int) ≤ (k : Int) - 1 := by omega
          have i4 : (k : Int) - 1 < (pn : Int) := by omega
          have i5 : ((k : Int) - 1).toNat = k - 1 := by omega
          have i6 : IntKind.i64.wrap ((k : Int) - 1) = (k : Int) - 1 := wrap_id _ (by omega) (by omega)
          have dk : decide ((0 : Int) < (k : Int)) = true := by simp; omega
          have dk' : decide (0 < k) = true := by simp; omega
          have w1 : IntKind.i64.wrap (z k - z (k - 1)) = z k - z (k - 1) := wrap_id _ (by omega) (by omega)
          have w2 : IntKind.i64.wrap (z (k - 1) - z k) = z (k - 1) - z k := wrap_id _ (by omega) (by omega)
          have good : z k - z (k - 1) ≤ s4 → z (k - 1) - z k ≤ s4 → ∀ i, i < k + 1 → knot z sg i := by
            intro h h' i hi
            by_cases e : i = k
            · subst e
              exact ⟨⟨r1, r2⟩, fun _ => by rw [hs4]; exact ⟨h, h'⟩⟩
            · exact hkn i (by omega)
          have bad : (s4 < z k - z (k - 1) ∨ s4 < z (k - 1) - z k) → ¬ knot z sg k := by
            intro h hh
            have := hh.2 (by omega)
            rw [hs4] at this
            omega
          have NOk := Lib.hid (NO.out k hlt)
          have G := Lib.hid good
          have Bd := Lib.hid bad
          clear good bad hp
          generalize z k = zk at *
          generalize z (k - 1) = zp at *
          have three : (zk - zp ≤ s4 ∧ zp - zk ≤ s4) ∨ s4 < zk - zp ∨ (zk - zp ≤ s4 ∧ s4 < zp - zk) := by omega
          rcases three with ⟨q1, q2⟩ | three
          · have hkn' := G.out q1 q2
            have f1 : decide (s4 < zk - zp) = false := decide_eq_false (by omega)
            have f2 : decide (s4 < zp - zk) = false := decide_eq_false (by omega)
            clear q1 q2
            go_wp2_with fail
            go_quiet (fail)
            go_wp2_with fail
            go_roundw
            case rel => exact ⟨k + 1, _, by omega, by go_num, hkn', by first | rfl | rw [World.drewN_drewN]⟩
            case measure => simp [intOf]; omega
          · have hR := NOk.out (Bd.out (by omega))
            subst hR
            rcases three with q1 | ⟨q1, q2⟩
            · have f1 : decide (s4 < zk - zp) = true := decide_eq_true q1
              clear q1
              go_wp2_with fail
              go_quiet (fail)
              go_wp2_with fail
              go_ret
              exact ⟨rfl, below_drewN belq _⟩
            · have f1 : decide (s4 < zk - zp) = false := decide_eq_false (by omega)
              have f2 : decide (s4 < zp - zk) = true := decide_eq_true q2
              clear q1 q2
              go_wp2_with fail
              go_quiet (fail)
              go_wp2_with fail
              go_ret
              exact ⟨rfl, below_drewN belq _⟩
      · have hR := NO.out k hlt (fun h => by have := h.1; omega)
        subst hR
        generalize z k = zk at *
        rcases rng with r1 | ⟨r1, r2⟩
        all_goals
          go_wp2_with fail
          go_ret
          exact ⟨rfl, belq⟩
    · obtain rfl : k = pn := by omega
      have hR := YES.out hkn
      subst hR
      go_wp2_with fail
      go_ret
      exact ⟨rfl, belq⟩
end Go.Proofs.Ytdopbdcfompodaa

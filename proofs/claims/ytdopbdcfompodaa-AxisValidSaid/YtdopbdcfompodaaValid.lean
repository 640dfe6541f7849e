/-
  What axis.table, axis.Valid and cncref26.Valid leave.
-/
import Derived.Test.YtdopbdcfompodaaInside
import Derived.Test.YtdopbdcfompodaaRowsInt
import Derived.Test.YtdopbdcfompodaaSteps26
namespace Go.Proofs.Ytdopbdcfompodaa
open Go Go.RowKit
set_option linter.unusedVariables false

def btw (n lo hi : Int) : Bool := decide (lo ≤ n ∧ n ≤ hi)
theorem btw_t {n lo hi : Int} : btw n lo hi = true ↔ lo ≤ n ∧ n ≤ hi := by unfold btw; exact decide_eq_true_iff
theorem btw_f {n lo hi : Int} : btw n lo hi = false ↔ ¬ (lo ≤ n ∧ n ≤ hi) := by unfold btw; exact decide_eq_false_iff_not
theorem between_t {n lo hi : Int} (h : btw n lo hi = true) (w : World) : Calls Try.prog 20 #[.int .i64 n, .int .i64 lo, .int .i64 hi] w fun e w' => e = .returned (.bool true) ∧ w = w' := by
  have := between_any n lo hi w
  unfold btw at h
  rwa [h] at this
theorem between_f {n lo hi : Int} (h : btw n lo hi = false) (w : World) : Calls Try.prog 20 #[.int .i64 n, .int .i64 lo, .int .i64 hi] w fun e w' => e = .returned (.bool false) ∧ w = w' := by
  have := between_any n lo hi w
  unfold btw at h
  rwa [h] at this

def knot (z : Nat → Int) (sg : Int) (i : Nat) : Prop := (-4096 ≤ z i ∧ z i ≤ 4096) ∧ (0 < i → z i - z (i - 1) ≤ sg.tdiv 4 ∧ z (i - 1) - z i ≤ sg.tdiv 4)
def tabP (og sg : Int) (n : Nat) (z : Nat → Int) : Prop := n = 0 ∨ (n ≤ 64 ∧ (-16777216 ≤ og ∧ og ≤ 16777216) ∧ (4 ≤ sg ∧ sg ≤ 16777216) ∧ ∀ i, i < n → knot z sg i)
open Classical in
noncomputable def pitB (og sg : Int) (n : Nat) (z : Nat → Int) : Bool := decide (tabP og sg n z)
open Classical in
theorem pitB_t {og sg : Int} {n : Nat} {z : Nat → Int} (h : tabP og sg n z) : pitB og sg n z = true := by unfold pitB; exact decide_eq_true h
open Classical in
theorem pitB_f {og sg : Int} {n : Nat} {z : Nat → Int} (h : ¬ tabP og sg n z) : pitB og sg n z = false := by unfold pitB; exact decide_eq_false h

set_option maxRecDepth 100000 in
set_option maxHeartbeats 1000000 in
theorem table_any (st sp ac je lo hi ba og sg : Int) (pa : Option Addr) (pn pc : Nat) (z : Nat → Int) (w : World) (hz : IntsAt w pa pn z) (hn : pn ≤ 9223372036854775807) :
    Calls Try.prog 21 #[.agg (axc st sp ac je lo hi ba og sg pa pn pc)] w fun e w' => e = .returned (.bool (pitB og sg pn z)) ∧ Below w.heap.size w w' := by
  have bel := (Below.refl w.heap.size w).alloc (Nat.le_refl _) (.cells #[.int .i64 st, .int .i64 sp, .int .i64 ac, .int .i64 je, .int .i64 lo, .int .i64 hi, .int .i64 ba, .int .i64 og, .int .i64 sg, .slice pa pn pc] 25)
  unfold axc
  have four : pn = 0 ∨ (0 < pn ∧ 64 < pn) ∨ (0 < pn ∧ pn ≤ 64 ∧ btw og (-16777216) 16777216 = false) ∨ (0 < pn ∧ pn ≤ 64 ∧ btw og (-16777216) 16777216 = true ∧ btw sg 4 16777216 = false) ∨ (0 < pn ∧ pn ≤ 64 ∧ btw og (-16777216) 16777216 = true ∧ btw sg 4 16777216 = true) := by
    cases btw og (-16777216) 16777216 <;> cases btw sg 4 16777216 <;> simp <;> omega
  rcases four with h | ⟨h, h1⟩ | ⟨h, h1, h2⟩ | ⟨h, h1, h2, h3⟩ | ⟨h, h1, h2, h3⟩
  · subst h
    rw [pitB_t (.inl rfl)]
    go_enter Try.func21, Try.ntmps21
    go_wp2_with fail
    go_ret
    exact ⟨rfl, bel⟩
  · rw [pitB_f (by intro hh; rcases hh with hh | hh <;> omega)]
    have d0 : ((pn : Int) == 0) = false := by simp; omega
    have d1 : decide ((64 : Int) < (pn : Int)) = true := by simp; omega
    go_enter Try.func21, Try.ntmps21
    go_wp2_with fail
    go_ret
    exact ⟨rfl, bel⟩
  · rw [pitB_f (by intro hh; rcases hh with hh | hh; omega; exact btw_f.1 h2 hh.2.1)]
    have d0 : ((pn : Int) == 0) = false := by simp; omega
    have d1 : decide ((64 : Int) < (pn : Int)) = false := by simp; omega
    go_enter Try.func21, Try.ntmps21
    go_wp2_with (go_at_call 20; (first | refine (between_t (by assumption) _).mono ?_ | refine (between_f (by assumption) _).mono ?_); rintro e w' ⟨rfl, rfl⟩)
    go_ret
    exact ⟨rfl, bel⟩
  · rw [pitB_f (by intro hh; rcases hh with hh | hh; omega; exact btw_f.1 h3 hh.2.2.1)]
    have d0 : ((pn : Int) == 0) = false := by simp; omega
    have d1 : decide ((64 : Int) < (pn : Int)) = false := by simp; omega
    go_enter Try.func21, Try.ntmps21
    go_wp2_with (go_at_call 20; (first | refine (between_t (by assumption) _).mono ?_ | refine (between_f (by assumption) _).mono ?_); rintro e w' ⟨rfl, rfl⟩)
    go_ret
    exact ⟨rfl, bel⟩
  · have hsg := btw_t.1 h3
    have yes : (∀ i, i < pn → knot z sg i) → pitB og sg pn z = true := fun hk => pitB_t (.inr ⟨h1, btw_t.1 h2, hsg, hk⟩)
    have no : ∀ i, i < pn → ¬ knot z sg i → pitB og sg pn z = false := fun i hi hk => pitB_f (by intro hh; rcases hh with hh | hh; omega; exact hk (hh.2.2.2 i hi))
    generalize pitB og sg pn z = R at yes no ⊢
    have YES := Lib.hid yes
    have NO := Lib.hid no
    clear yes no
    have d0 : ((pn : Int) == 0) = false := by simp; omega
    have d1 : decide ((64 : Int) < (pn : Int)) = false := by simp; omega
    obtain ⟨s4, hs4⟩ : ∃ s4, sg.tdiv 4 = s4 := ⟨_, rfl⟩
    have hs4' : 1 ≤ s4 ∧ s4 ≤ 4194304 := by rw [← hs4, Int.tdiv_eq_ediv_of_nonneg (by omega)]; omega
    obtain ⟨hs41, hs42⟩ := hs4'
    clear hsg
    go_enter Try.func21, Try.ntmps21
    go_wp2_with (go_at_call 20; (first | refine (between_t (by assumption) _).mono ?_ | refine (between_f (by assumption) _).mono ?_); rintro e w' ⟨rfl, rfl⟩)
    go_loopw [28] (fun v28 wr => ∃ k q : Nat, k ≤ pn ∧ v28 = .int .i64 k ∧ (∀ i, i < k → knot z sg i) ∧ wr = (w.alloc (.cells #[.int .i64 st, .int .i64 sp, .int .i64 ac, .int .i64 je, .int .i64 lo, .int .i64 hi, .int .i64 ba, .int .i64 og, .int .i64 sg, .slice pa pn pc] 25)).drewN q)
      (fun v28 _ => pn - (intOf v28).toNat)
    case atStart => exact ⟨0, 0, by omega, rfl, fun i hi => by omega, rfl⟩
    case round =>
      obtain ⟨k, q, hk, rfl, hkn, rfl⟩ := hrel
      have belq := below_drewN bel q
      by_cases hlt : k < pn
      · obtain ⟨b, o, rfl, hbl, hc⟩ := hz k hlt
        have i1 : (0 : Int) ≤ (k : Int) := by omega
        have i2 : (k : Int) < (pn : Int) := by omega
        cases hr : btw (z k) (-4096) 4096 with
        | false =>
          have hR := NO.out k hlt (fun h => btw_f.1 hr h.1)
          subst hR
          generalize hzk : z k = zk at hc hr
          go_wp2_with (go_at_call 20; refine (between_f (by assumption) _).mono ?_; rintro e w' ⟨rfl, rfl⟩)
          go_ret
          exact ⟨rfl, belq⟩
        | true =>
          have hzr := btw_t.1 hr
          by_cases k0 : k = 0
          · subst k0
            have hkn' : ∀ i, i < 0 + 1 → knot z sg i := by
              intro i hi
              obtain rfl : i = 0 := by omega
              exact ⟨hzr, fun h => by omega⟩
            clear hzr
            rw [Nat.add_zero] at hc
            generalize hzk : z 0 = zk at hc hr
            go_wp2_with (go_at_call 20; refine (between_t (by assumption) _).mono ?_; rintro e w' ⟨rfl, rfl⟩)
            go_quiet (fail)
            go_wp2_with fail
            go_roundw
            case rel => exact ⟨1, _, by omega, rfl, hkn', by first | rfl | rw [World.drewN_drewN]⟩
            case measure => simp [intOf]; omega
          · obtain ⟨_, b', o', eb, hbl', hc'⟩ : ∃ u : Unit, ∃ b' o', some (⟨b, o, none⟩ : Addr) = some ⟨b', o', none⟩ ∧ b' < w.heap.size ∧ w.cell? ⟨b', o' + (k - 1), none⟩ = some (.int .i64 (z (k - 1))) := ⟨(), hz (k - 1) (by omega)⟩
            cases eb
            have hp := (hkn (k - 1) (by omega)).1
            have i3 : (0 : Int) ≤ (k : Int) - 1 := by omega
            have i4 : (k : Int) - 1 < (pn : Int) := by omega
            have i5 : ((k : Int) - 1).toNat = k - 1 := by omega
            have i6 : IntKind.i64.wrap ((k : Int) - 1) = (k : Int) - 1 := wrap_id _ (by omega) (by omega)
            have dk : decide ((0 : Int) < (k : Int)) = true := by simp; omega
            have dk' : decide (0 < k) = true := by simp; omega
            have w1 : IntKind.i64.wrap (z k - z (k - 1)) = z k - z (k - 1) := wrap_id _ (by omega) (by omega)
            have w2 : IntKind.i64.wrap (-s4) = -s4 := wrap_id _ (by omega) (by omega)
            have good : btw (z k - z (k - 1)) (-s4) s4 = true → ∀ i, i < k + 1 → knot z sg i := by
              intro h i hi
              by_cases e : i = k
              · subst e
                have := btw_t.1 h
                exact ⟨hzr, fun _ => by rw [hs4]; omega⟩
              · exact hkn i (by omega)
            have bad : btw (z k - z (k - 1)) (-s4) s4 = false → ¬ knot z sg k := by
              intro h hh
              have := hh.2 (by omega)
              rw [hs4] at this
              exact btw_f.1 h (by omega)
            have NOk := Lib.hid (NO.out k hlt)
            have G := Lib.hid good
            have Bd := Lib.hid bad
            clear good bad hzr hp
            generalize z k = zk at *
            generalize z (k - 1) = zp at *
            cases hd : btw (zk - zp) (-s4) s4 with
            | false =>
              have hR := NOk.out (Bd.out hd)
              subst hR
              go_wp2_with (go_at_call 20; refine (between_t (by assumption) _).mono ?_; rintro e w' ⟨rfl, rfl⟩)
              go_quiet (exact (between_f (by assumption) _).mono fun _ _ h => ⟨h.1, _, h.2.symm⟩)
              go_wp2_with fail
              go_ret
              exact ⟨rfl, below_drewN belq _⟩
            | true =>
              have hkn' := G.out hd
              go_wp2_with (go_at_call 20; refine (between_t (by assumption) _).mono ?_; rintro e w' ⟨rfl, rfl⟩)
              go_quiet (exact (between_t (by assumption) _).mono fun _ _ h => ⟨h.1, _, h.2.symm⟩)
              go_wp2_with fail
              go_roundw
              case rel => exact ⟨k + 1, _, by omega, by go_num, hkn', by first | rfl | rw [World.drewN_drewN]⟩
              case measure => simp [intOf]; omega
      · obtain rfl : k = pn := by omega
        have hR := YES.out hkn
        subst hR
        go_wp2_with fail
        go_ret
        exact ⟨rfl, belq⟩
end Go.Proofs.Ytdopbdcfompodaa

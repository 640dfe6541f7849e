/-
  What axis.Valid leaves.
-/
import Derived.Test.YtdopbdcfompodaaValid
namespace Go.Proofs.Ytdopbdcfompodaa
open Go Go.RowKit
set_option linter.unusedVariables false

def trav (lo hi : Int) : Bool := decide (-16777216 ≤ lo ∧ hi ≤ 16777216 ∧ lo ≤ hi)
noncomputable def validB (st sp ac je lo hi ba og sg : Int) (pn : Nat) (z : Nat → Int) : Bool :=
  btw st 4 4096 && (btw sp 1 1048576 && (btw ac 2 1048576 && (btw je 4 1048576 && (trav lo hi && (btw ba 0 64 && pitB og sg pn z)))))

set_option maxRecDepth 100000 in
set_option maxHeartbeats 4000000 in
theorem valid_any (st sp ac je lo hi ba og sg : Int) (pa : Option Addr) (pn pc : Nat) (z : Nat → Int) (w : World) (hz : IntsAt w pa pn z) (hn : pn ≤ 9223372036854775807) :
    Calls Try.prog 15 #[.agg (axc st sp ac je lo hi ba og sg pa pn pc)] w fun e w' => e = .returned (.bool (validB st sp ac je lo hi ba og sg pn z)) ∧ Below w.heap.size w w' := by
  have bel := (Below.refl w.heap.size w).alloc (Nat.le_refl _) (.cells #[.int .i64 st, .int .i64 sp, .int .i64 ac, .int .i64 je, .int .i64 lo, .int .i64 hi, .int .i64 ba, .int .i64 og, .int .i64 sg, .slice pa pn pc] 25)
  have mot : (btw st 4 4096 = true ∧ btw sp 1 1048576 = true ∧ btw ac 2 1048576 = true ∧ btw je 4 1048576 = true) ∨ btw st 4 4096 = false ∨ (btw st 4 4096 = true ∧ btw sp 1 1048576 = false) ∨ (btw st 4 4096 = true ∧ btw sp 1 1048576 = true ∧ btw ac 2 1048576 = false) ∨
      (btw st 4 4096 = true ∧ btw sp 1 1048576 = true ∧ btw ac 2 1048576 = true ∧ btw je 4 1048576 = false) := by
    cases btw st 4 4096 <;> cases btw sp 1 1048576 <;> cases btw ac 2 1048576 <;> cases btw je 4 1048576 <;> simp
  have tra : (-16777216 ≤ lo ∧ hi ≤ 16777216 ∧ lo ≤ hi) ∨ ¬ -16777216 ≤ lo ∨ (-16777216 ≤ lo ∧ ¬ hi ≤ 16777216) ∨ (-16777216 ≤ lo ∧ hi ≤ 16777216 ∧ ¬ lo ≤ hi) := by omega
  rcases mot with ⟨m1, m2, m3, m4⟩ | mot
  · rcases tra with ⟨t1, t2, t3⟩ | tra
    · cases hb : btw ba 0 64 with
      | false =>
        have e : validB st sp ac je lo hi ba og sg pn z = false := by simp [validB, hb]
        rw [e]
        clear e hz
        unfold axc
        go_enter Try.func15, Try.ntmps15
        go_wp2_with (go_at_call 20; (first | refine (between_t (by assumption) _).mono ?_ | refine (between_f (by assumption) _).mono ?_); rintro e w' ⟨rfl, rfl⟩)
        go_ret
        exact ⟨rfl, bel⟩
      | true =>
        have e : validB st sp ac je lo hi ba og sg pn z = pitB og sg pn z := by simp [validB, hb, m1, m2, m3, m4, trav, t1, t2, t3]
        rw [e]
        have hz2 : IntsAt (w.alloc (.cells #[.int .i64 st, .int .i64 sp, .int .i64 ac, .int .i64 je, .int .i64 lo, .int .i64 hi, .int .i64 ba, .int .i64 og, .int .i64 sg, .slice pa pn pc] 25)) pa pn z := hz.below ((Below.refl w.heap.size w).alloc (Nat.le_refl _) _)
        have tb := table_any st sp ac je lo hi ba og sg pa pn pc z _ hz2 hn
        generalize pitB og sg pn z = R at tb
        unfold axc at tb ⊢
        have TB := Lib.hid tb
        clear tb e hz hz2
        go_enter Try.func15, Try.ntmps15
        go_wp2_with (go_at_call 20; (first | refine (between_t (by assumption) _).mono ?_ | refine (between_f (by assumption) _).mono ?_); rintro e w' ⟨rfl, rfl⟩)
        refine TB.out.mono ?_
        rintro e w' ⟨rfl, b2⟩
        have b3 := bel.trans (b2.mono (by simp))
        go_wp2_with fail
        go_ret
        exact ⟨rfl, b3⟩
    · have ht : trav lo hi = false := by unfold trav; exact decide_eq_false (by omega)
      have e : validB st sp ac je lo hi ba og sg pn z = false := by simp [validB, ht]
      rw [e]
      clear e hz
      unfold axc
      rcases tra with t1 | ⟨t1, t2⟩ | ⟨t1, t2, t3⟩
      all_goals
        go_enter Try.func15, Try.ntmps15
        go_wp2_with (go_at_call 20; (first | refine (between_t (by assumption) _).mono ?_ | refine (between_f (by assumption) _).mono ?_); rintro e w' ⟨rfl, rfl⟩)
        go_ret
        exact ⟨rfl, bel⟩
  · have e : validB st sp ac je lo hi ba og sg pn z = false := by
      rcases mot with h | ⟨_, h⟩ | ⟨_, _, h⟩ | ⟨_, _, _, h⟩ <;> simp [validB, h]
    rw [e]
    clear e hz
    unfold axc
    rcases mot with m1 | ⟨m1, m2⟩ | ⟨m1, m2, m3⟩ | ⟨m1, m2, m3, m4⟩
    all_goals
      rcases tra with ⟨t1, t2, t3⟩ | t1 | ⟨t1, t2⟩ | ⟨t1, t2, t3⟩
      all_goals
        go_enter Try.func15, Try.ntmps15
        go_wp2_with (go_at_call 20; (first | refine (between_t (by assumption) _).mono ?_ | refine (between_f (by assumption) _).mono ?_); rintro e w' ⟨rfl, rfl⟩)
        go_ret
        exact ⟨rfl, bel⟩
end Go.Proofs.Ytdopbdcfompodaa

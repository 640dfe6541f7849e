/-
  AxisInside returns true. Its arguments: any.
-/
import Derived.Test.YtdopbdcfompodaaLaws26
import Derived.Test.YtdopbdcfompodaaArgs
import Derived.Test.YtdopbdcfompodaaHeld
namespace Go.Proofs.Ytdopbdcfompodaa
open Go Go.RowKit
set_option linter.unusedVariables false

/-- An axis that came in: nine integers and a row of integers. -/
theorem axis_cells {w : World} {c : List Value} (h : Leaves w axisKs c) : ∃ st sp ac je lo hi ba og sg : Int, ∃ pa pn pc zs, c.toArray = axc st sp ac je lo hi ba og sg pa pn pc ∧ IsRow .i64 w pa pn pc zs := by
  unfold axisKs at h
  obtain ⟨v0, c, rfl, h0, h⟩ := h.cons
  obtain ⟨v1, c, rfl, h1, h⟩ := h.cons
  obtain ⟨v2, c, rfl, h2, h⟩ := h.cons
  obtain ⟨v3, c, rfl, h3, h⟩ := h.cons
  obtain ⟨v4, c, rfl, h4, h⟩ := h.cons
  obtain ⟨v5, c, rfl, h5, h⟩ := h.cons
  obtain ⟨v6, c, rfl, h6, h⟩ := h.cons
  obtain ⟨v7, c, rfl, h7, h⟩ := h.cons
  obtain ⟨v8, c, rfl, h8, h⟩ := h.cons
  obtain ⟨v9, c, rfl, h9, h⟩ := h.cons
  cases h.end
  obtain ⟨z0, rfl, _⟩ := h0.num
  obtain ⟨z1, rfl, _⟩ := h1.num
  obtain ⟨z2, rfl, _⟩ := h2.num
  obtain ⟨z3, rfl, _⟩ := h3.num
  obtain ⟨z4, rfl, _⟩ := h4.num
  obtain ⟨z5, rfl, _⟩ := h5.num
  obtain ⟨z6, rfl, _⟩ := h6.num
  obtain ⟨z7, rfl, _⟩ := h7.num
  obtain ⟨z8, rfl, _⟩ := h8.num
  obtain ⟨a, n, k, zs, rfl, hr⟩ := h9.ints
  exact ⟨z0, z1, z2, z3, z4, z5, z6, z7, z8, a, n, k, zs, rfl, hr⟩

theorem between_any (n lo hi : Int) (w : World) : Calls Try.prog 20 #[.int .i64 n, .int .i64 lo, .int .i64 hi] w fun e w' => e = .returned (.bool (decide (lo ≤ n ∧ n ≤ hi))) ∧ w = w' := by
  by_cases h1 : lo ≤ n
  · by_cases h2 : n ≤ hi
    · go_enter Try.func20, Try.ntmps20
      go_wp2
      go_ret
      exact ⟨ret_bool (by simp [h1, h2]), rfl⟩
    · go_enter Try.func20, Try.ntmps20
      go_wp2
      go_ret
      exact ⟨ret_bool (by simp [h2]; try omega), rfl⟩
  · go_enter Try.func20, Try.ntmps20
    go_wp2
    go_ret
    exact ⟨ret_bool (by simp; try omega), rfl⟩

theorem inside_any (st sp ac je lo hi ba og sg : Int) (pa : Option Addr) (pn pc : Nat) (q : Int) (w : World) :
    Calls Try.prog 14 #[.agg (axc st sp ac je lo hi ba og sg pa pn pc), .int .i64 q] w fun e w' => e = .returned (.bool (decide (lo ≤ q ∧ q ≤ hi))) ∧ ∃ k, w' = (w.alloc (.cells (axc st sp ac je lo hi ba og sg pa pn pc) 25)).drewN k := by
  have hb := fun W => between_any q lo hi W
  generalize decide (lo ≤ q ∧ q ≤ hi) = r at hb ⊢
  unfold axc
  go_enter Try.func14, Try.ntmps14
  go_wp2_with (go_at_call 20; refine (hb _).mono ?_; rintro e w' ⟨rfl, rfl⟩)
  go_ret
  exact ⟨rfl, 0, rfl⟩

set_option maxRecDepth 100000 in
set_option maxHeartbeats 1000000 in
theorem inside_walk (c : List Value) (q : Int) (w : World) (hc : Leaves w axisKs c) :
    Calls Try.prog 6 #[.agg c.toArray, .int .i64 q] w fun e w' => e = .returned (.bool true) ∧ Below w.heap.size w w' := by
  obtain ⟨st, sp, ac, je, lo, hi, ba, og, sg, pa, pn, pc, zs, e, _⟩ := axis_cells hc
  rw [e]
  clear e hc
  have hi0 := fun W => inside_any st sp ac je lo hi ba og sg pa pn pc q W
  unfold axc at hi0 ⊢
  have three : (lo ≤ q ∧ q ≤ hi) ∨ (lo ≤ q ∧ ¬ q ≤ hi) ∨ (¬ lo ≤ q ∧ lo = lo) := by omega
  rcases three with ⟨h1, h2⟩ | ⟨h1, h2⟩ | ⟨h1, h2⟩
  all_goals
    have hd : ∃ b, decide (lo ≤ q ∧ q ≤ hi) = b := ⟨_, rfl⟩
    obtain ⟨b, hd⟩ := hd
    rw [hd] at hi0
    have hb : b = (decide (lo ≤ q) && decide (q ≤ hi)) := by rw [← hd]; simp
    first | simp only [h1, h2, decide_true, decide_false, Bool.and_true, Bool.and_false] at hb | simp only [h1, decide_false, Bool.false_and] at hb
    subst hb
    clear hd
    first | (have d1 : decide (lo ≤ q) = true := decide_eq_true h1) | (have d1 : decide (lo ≤ q) = false := decide_eq_false h1)
    first | (have d2 : decide (q ≤ hi) = true := decide_eq_true h2) | (have d2 : decide (q ≤ hi) = false := decide_eq_false h2) | have d2 := h2
    clear h1 h2
    have HI := Lib.hid hi0
    clear hi0
    let S := Keeps w.heap.size w w.heap.size 25 #[.int .i64 st, .int .i64 sp, .int .i64 ac, .int .i64 je, .int .i64 lo, .int .i64 hi, .int .i64 ba, .int .i64 og, .int .i64 sg, .slice pa pn pc]
    have e0 : ∀ p : At S, p.w.cell? ⟨w.heap.size, 0, none⟩ = some (.int .i64 st) := fun p => p.ok.cell 0 rfl
    have e1 : ∀ p : At S, p.w.cell? ⟨w.heap.size, 1, none⟩ = some (.int .i64 sp) := fun p => p.ok.cell 1 rfl
    have e2 : ∀ p : At S, p.w.cell? ⟨w.heap.size, 2, none⟩ = some (.int .i64 ac) := fun p => p.ok.cell 2 rfl
    have e3 : ∀ p : At S, p.w.cell? ⟨w.heap.size, 3, none⟩ = some (.int .i64 je) := fun p => p.ok.cell 3 rfl
    have e4 : ∀ p : At S, p.w.cell? ⟨w.heap.size, 4, none⟩ = some (.int .i64 lo) := fun p => p.ok.cell 4 rfl
    have e5 : ∀ p : At S, p.w.cell? ⟨w.heap.size, 5, none⟩ = some (.int .i64 hi) := fun p => p.ok.cell 5 rfl
    have e6 : ∀ p : At S, p.w.cell? ⟨w.heap.size, 6, none⟩ = some (.int .i64 ba) := fun p => p.ok.cell 6 rfl
    have e7 : ∀ p : At S, p.w.cell? ⟨w.heap.size, 7, none⟩ = some (.int .i64 og) := fun p => p.ok.cell 7 rfl
    have e8 : ∀ p : At S, p.w.cell? ⟨w.heap.size, 8, none⟩ = some (.int .i64 sg) := fun p => p.ok.cell 8 rfl
    have e9 : ∀ p : At S, p.w.cell? ⟨w.heap.size, 9, none⟩ = some (.slice pa pn pc) := fun p => p.ok.cell 9 rfl
    have hS : ∀ w', Below (w.heap.size + 1) (w.alloc (.cells #[.int .i64 st, .int .i64 sp, .int .i64 ac, .int .i64 je, .int .i64 lo, .int .i64 hi, .int .i64 ba, .int .i64 og, .int .i64 sg, .slice pa pn pc] 25)) w' → S w'.drew := fun w' h => ((Keeps.new (Below.refl _ _) (Nat.le_refl _) _ _).below (by simpa using h)).drew
    have hA : ∀ (p : At S) k, S ((p.w.alloc (.cells #[.int .i64 st, .int .i64 sp, .int .i64 ac, .int .i64 je, .int .i64 lo, .int .i64 hi, .int .i64 ba, .int .i64 og, .int .i64 sg, .slice pa pn pc] 25)).drewN k) := fun p k => (p.ok.alloc _).drewN k
    have hB : ∀ p : At S, Below w.heap.size w p.w := fun p => p.ok.bel
    clear_value S
    go_enter Try.func6, Try.ntmps6
    go_wp2_with fail
    refine (awake_true _).mono ?_
    rintro e wa ⟨rfl, bel⟩
    have hs := hS wa (by simpa using bel)
    have inst : Nonempty (At S) := ⟨⟨_, hs⟩⟩
    go_wp2_with fail
    refine wp_region_at S (by kernel_rfl) (by kernel_rfl) hs ?_
    repeat go_big_quiet_step (exact Calls.at_of (HI.out _) fun e w' h => ⟨h.1, by obtain ⟨_, k, rfl⟩ := h; exact hA _ _⟩)
    refine wpQuiet_nil ?_
    rintro _ ⟨p, rfl⟩
    go_wp2_with fail
    go_ret
    exact ⟨rfl, hB p⟩
end Go.Proofs.Ytdopbdcfompodaa

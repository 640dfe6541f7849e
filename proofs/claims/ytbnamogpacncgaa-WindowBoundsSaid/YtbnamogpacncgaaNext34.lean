/-
  WindowNext and WindowMore return true. Their arguments: any.
-/
import Derived.Test.YtbnamogpacncgaaLaws34
namespace Go.Proofs.Ytbnamogpacncgaa
open Go Go.RowKit
set_option linter.unusedVariables false

theorem sorted_le {m : Nat → MarkV} {n : Nat} (h : ∀ i, i + 1 < n → (m i).pos ≤ (m (i + 1)).pos) : ∀ i j, i ≤ j → j < n → (m i).pos ≤ (m j).pos := by
  intro i j hij hj
  induction j with
  | zero => obtain rfl : i = 0 := (by omega); omega
  | succ j ih =>
    by_cases e : i = j + 1
    · subst e; omega
    · have := ih (by omega) (by omega)
      have := h j hj
      omega
theorem more_law {m : Nat → MarkV} {n first : Nat} {si op : Bool} {known more from' a i b j : Int} (hs : ∀ i, i + 1 < n → (m i).pos ≤ (m (i + 1)).pos) (hk : known ≤ more) (h : NextIs m n first si op known from' a i) (k : NextIs m n first si op more from' b j) :
    (i < 0 ∧ a = known ∧ j < 0 ∧ b = more) ∨ (i < 0 ∧ a = known ∧ 0 ≤ j ∧ known < b) ∨ (0 ≤ i ∧ a = b ∧ i = j) := by
  have hs' := sorted_le hs
  rcases h with ⟨x, x0, x1, ⟨xh, xf, xk⟩, xn, hi, ha⟩ | ⟨hn, hi, ha⟩
  · have hx : Hit m si op more from' x := ⟨xh, xf, by omega⟩
    rcases k with ⟨y, y0, y1, ⟨yh, yf, yk⟩, yn, hj, hb⟩ | ⟨kn, hj, hb⟩
    · rcases Nat.lt_trichotomy x y with h | h | h
      · exact absurd hx (yn x x0 h)
      · subst h; exact .inr (.inr ⟨by omega, by omega, by omega⟩)
      · exact absurd ⟨yh, yf, by have := hs' y x (by omega) x1; omega⟩ (xn y y0 h)
    · exact absurd hx (kn x x0 x1)
  · rcases k with ⟨y, y0, y1, ⟨yh, yf, yk⟩, yn, hj, hb⟩ | ⟨kn, hj, hb⟩
    · refine .inr (.inl ⟨by omega, ha, by omega, ?_⟩)
      have := hn y y0 y1
      by_cases h : (m y).pos ≤ known
      · exact absurd ⟨yh, yf, h⟩ this
      · omega
    · exact .inl ⟨by omega, ha, by omega, hb⟩

set_option maxRecDepth 100000 in
set_option maxHeartbeats 1000000 in
theorem next_walk (a0 : Option Addr) (len0 cap0 : Nat) (a1 : Int) (c2 : List Value) (a3 a4 : Int) (w : World) (h0 : Leaf w (.tab markKs) (.slice a0 len0 cap0)) (h1 : (Lit.int .i64 a1).wf = true) (h2 : Leaves w overrideKs c2) :
    Calls Try.prog 4 #[.slice a0 len0 cap0, .int .i64 a1, .agg c2.toArray, .int .i64 a3, .int .i64 a4] w fun e w' => e = .returned (.bool true) ∧ Below w.heap.size w w' := by
  obtain ⟨m, hT, hmax⟩ := marks_in h0
  obtain ⟨f, rp, h, si, op, e⟩ := override_in h2
  rw [e]
  clear e h0 h2
  have h1' : a1 ≤ 9223372036854775807 := by simp [Lit.wf, IntKind.max, IntKind.min, IntKind.signed, IntKind.bits] at h1; omega
  go_enter Try.func4, Try.ntmps4
  go_wp2_with fail
  refine (awake_true _).mono ?_
  rintro e wa ⟨rfl, bel⟩
  have b1 : Blk wa w.heap.size 25 #[.int .i64 f, .int .i64 rp, .bool h, .bool si, .bool op] := (Blk.new w 25 _).below bel (by simp)
  have bel := (Below.alloc (Below.refl w.heap.size w) (Nat.le_refl _) (.cells #[.int .i64 f, .int .i64 rp, .bool h, .bool si, .bool op] 25)).trans (bel.mono (by simp))
  have hsz := bel.size
  have T1 := hT.below bel
  go_wp2_with fail
  refine (sorted_any a0 len0 cap0 m _ T1).mono ?_
  rintro e wx ⟨⟨r, rfl, hr⟩, q, rfl⟩
  have b1 := b1.drewN q
  have bel := below_drewN bel q
  have T1 := T1.drewN q
  generalize wa.drewN q = wb at *
  cases r with
  | false =>
    go_wp2_with fail
    go_ret
    exact ⟨rfl, bel⟩
  | true =>
    obtain ⟨hn, hs⟩ := hr rfl
    clear hr
    by_cases hf : a1 < 0
    · go_wp2_with fail
      go_ret
      exact ⟨rfl, bel⟩
    · obtain ⟨F, rfl⟩ := Int.eq_ofNat_of_zero_le (show 0 ≤ a1 by omega)
      have hfd : decide ((F : Int) < 0) = false := decide_eq_false hf
      have d0 := b1.cell 0
      have d1 := b1.cell 1
      have d2 := b1.cell 2
      have d3 := b1.cell 3
      have d4 := b1.cell 4
      simp at d0 d1 d2 d3 d4
      go_wp2_with fail
      refine (next_any a0 len0 cap0 F m f rp h si op a3 a4 _ T1 hn (by omega)).mono ?_
      rintro e wc ⟨a, i, rfl, N1, i1, belC⟩
      have b2 := b1.below belC b1.lt
      have T2 := T1.below belC
      have belC := bel.trans (belC.mono bel.size)
      clear d0 d1 d2 d3 d4
      have d0 := b2.cell 0
      have d1 := b2.cell 1
      have d2 := b2.cell 2
      have d3 := b2.cell 3
      have d4 := b2.cell 4
      simp at d0 d1 d2 d3 d4
      go_wp2_with fail
      refine (rnext_any a0 len0 cap0 F m f rp h si op a3 a4 _ T2 hn (by omega)).mono ?_
      rintro e wd ⟨b, j, rfl, N2, j1, belD⟩
      obtain ⟨rfl, rfl⟩ := N1.one N2
      have belD := belC.trans (belD.mono belC.size)
      go_wp2_with fail
      go_ret
      exact ⟨rfl, belD⟩
end Go.Proofs.Ytbnamogpacncgaa

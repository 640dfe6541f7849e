/-
  WindowMore returns true. Their arguments: any.
-/
import Derived.Test.YtbnamogpacncgaaNext34
namespace Go.Proofs.Ytbnamogpacncgaa
open Go Go.RowKit
set_option linter.unusedVariables false

set_option maxRecDepth 100000 in
set_option maxHeartbeats 1000000 in
theorem more_walk (a0 : Option Addr) (len0 cap0 : Nat) (a1 : Int) (c2 : List Value) (a3 a4 a5 : Int) (w : World) (h0 : Leaf w (.tab markKs) (.slice a0 len0 cap0)) (h1 : (Lit.int .i64 a1).wf = true) (h2 : Leaves w overrideKs c2) :
    Calls Try.prog 6 #[.slice a0 len0 cap0, .int .i64 a1, .agg c2.toArray, .int .i64 a3, .int .i64 a4, .int .i64 a5] w fun e w' => e = .returned (.bool true) ∧ Below w.heap.size w w' := by
  obtain ⟨m, hT, hmax⟩ := marks_in h0
  obtain ⟨f, rp, h, si, op, e⟩ := override_in h2
  rw [e]
  clear e h0 h2
  have h1' : a1 ≤ 9223372036854775807 := by simp [Lit.wf, IntKind.max, IntKind.min, IntKind.signed, IntKind.bits] at h1; omega
  go_enter Try.func6, Try.ntmps6
  go_wp2_with fail
  refine (awake_true _).mono ?_
  rintro e wa ⟨rfl, bel⟩
  have b1 : Blk wa w.heap.size 25 #[.int .i64 f, .int .i64 rp, .bool h, .bool si, .bool op] := (Blk.new w 25 _).below bel (by simp)
  have bel := (Below.alloc (Below.refl w.heap.size w) (Nat.le_refl _) (.cells #[.int .i64 f, .int .i64 rp, .bool h, .bool si, .bool op] 25)).trans (bel.mono (by simp))
  have hsz := bel.size
  have T1 := hT.below bel
  go_wp2_with fail
  refine (sorted_any a0 len0 cap0 m _ T1).mono ?_
  rintro e wx ⟨⟨r, rfl, hr⟩, q, rfl⟩
  have b1 := b1.drewN q
  have bel := below_drewN bel q
  have T1 := T1.drewN q
  generalize wa.drewN q = wb at *
  cases r with
  | false =>
    go_wp2_with fail
    go_ret
    exact ⟨rfl, bel⟩
  | true =>
    obtain ⟨hn, hs⟩ := hr rfl
    clear hr
    by_cases hf : a1 < 0
    · go_wp2_with fail
      go_ret
      exact ⟨rfl, bel⟩
    · obtain ⟨F, rfl⟩ := Int.eq_ofNat_of_zero_le (show 0 ≤ a1 by omega)
      have hfd : decide ((F : Int) < 0) = false := decide_eq_false hf
      by_cases hkm : a4 < a3
      · go_wp2_with fail
        go_ret
        exact ⟨rfl, bel⟩
      have hkd : decide (a4 < a3) = false := decide_eq_false hkm
      have d0 := b1.cell 0
      have d1 := b1.cell 1
      have d2 := b1.cell 2
      have d3 := b1.cell 3
      have d4 := b1.cell 4
      simp at d0 d1 d2 d3 d4
      go_wp2_with fail
      refine (next_any a0 len0 cap0 F m f rp h si op a3 a5 _ T1 hn (by omega)).mono ?_
      rintro e wc ⟨a, i, rfl, N1, i1, belC⟩
      have b2 := b1.below belC b1.lt
      have T2 := T1.below belC
      have belC := bel.trans (belC.mono bel.size)
      clear d0 d1 d2 d3 d4
      have d0 := b2.cell 0
      have d1 := b2.cell 1
      have d2 := b2.cell 2
      have d3 := b2.cell 3
      have d4 := b2.cell 4
      simp at d0 d1 d2 d3 d4
      go_wp2_with fail
      refine (next_any a0 len0 cap0 F m f rp h si op a4 a5 _ T2 hn (by omega)).mono ?_
      rintro e wd ⟨b, j, rfl, N2, j1, belD⟩
      have L := more_law hs (by omega) N1 N2
      have belD := belC.trans (belD.mono belC.size)
      clear d0 d1 d2 d3 d4 N1 N2 hfd hkd
      rcases L with ⟨l1, rfl, l3, rfl⟩ | ⟨l1, rfl, l3, l4⟩ | ⟨l1, rfl, rfl⟩
      · have e1 : decide (i < 0) = true := decide_eq_true l1
        have e2 : decide (j < 0) = true := decide_eq_true l3
        go_wp2_with fail
        go_ret
        exact ⟨rfl, belD⟩
      · have e1 : decide (i < 0) = true := decide_eq_true l1
        have e2 : decide (j < 0) = false := decide_eq_false (by omega)
        go_wp2_with fail
        go_ret
        exact ⟨rfl, belD⟩
      · have e1 : decide (i < 0) = false := decide_eq_false (by omega)
        go_wp2_with fail
        go_ret
        exact ⟨rfl, belD⟩
end Go.Proofs.Ytbnamogpacncgaa

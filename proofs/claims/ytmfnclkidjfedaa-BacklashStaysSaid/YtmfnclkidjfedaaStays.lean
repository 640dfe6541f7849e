/-
  BacklashStays returns true. Its arguments: any.
-/
import Derived.Test.YtmfnclkidjfedaaLaws28
namespace Go.Proofs.Ytmfnclkidjfedaa
open Go Go.RowKit
set_option linter.unusedVariables false

theorem tab_facts (b t m : Int) (hb : 0 ≤ b) : m ≤ tab b t m ∧ tab b t m ≤ m + b ∧ (m ≤ t → t ≤ m + b → tab b t m = t) ∧ tab b (tab b t m) m = tab b t m := by
  unfold tab; omega

set_option maxRecDepth 100000 in
theorem stays_walk (a0 : Option Addr) (len0 cap0 : Nat) (z0 : List Int) (a1 : Int) (a2 : Int) (w : World) (hr : IsRow .i64 w a0 len0 cap0 z0) :
    Calls Try.prog 4 #[.slice a0 len0 cap0, .int .i64 a1, .int .i64 a2] w fun e w' => e = .returned (.bool true) ∧ Below w.heap.size w w' := by
  go_enter Try.func4, Try.ntmps4
  go_wp2_with fail
  refine (awake_true _).mono ?_
  rintro e wa ⟨rfl, bela⟩
  go_wp2_with fail
  refine (axes_any wa _ _ _ z0 (hr.below bela)).mono ?_
  rintro e wb ⟨v1, v2, v3, rfl, g1, g2, g3, belb, own⟩
  have bel := bela.trans (belb.mono bela.size)
  clear bela belb own
  have i0 := fun W => axis0 v1 v2 v3 W
  simp only [AxisV.cells, List.append_toArray, List.cons_append, List.nil_append] at i0 ⊢
  by_cases h1 : nearB a1 = true
  · by_cases h2 : nearB a2 = true
    · have h1' := h1
      have h2' := h2
      unfold nearB at h1' h2'
      simp only [decide_eq_true_eq] at h1' h2'
      obtain ⟨n1, n1'⟩ := h1'
      obtain ⟨n2, n2'⟩ := h2'
      obtain ⟨b0, b1⟩ := g1.ba
      obtain ⟨f1, f2, f3, f4⟩ := tab_facts v1.ba a1 a2 b0
      go_wp2_with (go_at_call 10; refine (near_any _ _).mono ?_; rintro e w' ⟨rfl, rfl⟩)
      refine (table_any v1 g1 a1 a2 _ (by omega) (by omega) (by omega) (by omega)).mono ?_
      rintro e w' ⟨rfl, rfl⟩
      generalize tab v1.ba a1 a2 = t at *
      have F4 := Lib.hid f4
      clear f4
      dsimp only [AxisV.cells]
      by_cases hf : a2 ≤ a1
      · by_cases hf' : a1 ≤ a2 + v1.ba
        · have he : (t == a1) = true := by simpa using f3 hf hf'
          clear f3
          go_wp2_with fail
          refine (table_any v1 g1 t a2 _ (by omega) (by omega) (by omega) (by omega)).mono ?_
          rintro e w' ⟨rfl, rfl⟩
          rw [F4.out]
          go_wp2_with fail
          go_ret
          exact ⟨rfl, by repeat (first | exact bel | (refine Below.alloc ?_ (by have := bel.size; simp; omega) _))⟩
        · clear f3
          go_wp2_with fail
          refine (table_any v1 g1 t a2 _ (by omega) (by omega) (by omega) (by omega)).mono ?_
          rintro e w' ⟨rfl, rfl⟩
          rw [F4.out]
          go_wp2_with fail
          go_ret
          exact ⟨rfl, by repeat (first | exact bel | (refine Below.alloc ?_ (by have := bel.size; simp; omega) _))⟩
      · clear f3
        go_wp2_with fail
        refine (table_any v1 g1 t a2 _ (by omega) (by omega) (by omega) (by omega)).mono ?_
        rintro e w' ⟨rfl, rfl⟩
        rw [F4.out]
        go_wp2_with fail
        go_ret
        exact ⟨rfl, by repeat (first | exact bel | (refine Below.alloc ?_ (by have := bel.size; simp; omega) _))⟩
    · have h2' : nearB a2 = false := by simpa using h2
      go_wp2_with (go_at_call 10; refine (near_any _ _).mono ?_; rintro e w' ⟨rfl, rfl⟩)
      go_ret
      exact ⟨rfl, by repeat (first | exact bel | (refine Below.alloc ?_ (by have := bel.size; simp; omega) _))⟩
  · have h1' : nearB a1 = false := by simpa using h1
    go_wp2_with (go_at_call 10; refine (near_any _ _).mono ?_; rintro e w' ⟨rfl, rfl⟩)
    go_ret
    exact ⟨rfl, by repeat (first | exact bel | (refine Below.alloc ?_ (by have := bel.size; simp; omega) _))⟩
end Go.Proofs.Ytmfnclkidjfedaa

/-
  cnclaw33.awake returns true. No condition beyond what the variables hold.
-/
import Derived.Test.YtkafmpgihhnhdaaDoorFormat33
namespace Go.Proofs.YtkafmpgihhnhdaaDoor
open Go Go.RowKit
set_option linter.unusedVariables false

theorem awake_parse : parseR (bl ⟨#[51, 32, 104, 111, 108, 100, 32, 48, 48, 10]⟩) = ([], 2) := by with_unfolding_all kernel_rfl
theorem awake_fmt : mkB (fmtL [⟨3, 3, 0⟩]) = ⟨#[51, 32, 104, 111, 108, 100, 32, 48, 10]⟩ := by
  have h3 : Lib.itoa 3 = [51] := by unfold Lib.itoa; rw [if_neg (by decide)]; exact Lib.decDigits_one (by decide)
  have h0 : Lib.itoa 0 = [48] := by unfold Lib.itoa; rw [if_neg (by decide)]; exact Lib.decDigits_one (by decide)
  unfold fmtL fmtE
  simp only [List.flatMap_cons, List.flatMap_nil]
  rw [h3, h0]
  rfl
set_option maxRecDepth 100000 in
theorem awake_true (w : World) (hE : Env w) : Calls Tryd.prog 9 #[] w fun e w' => e = .returned (.bool true) ∧ Below w.heap.size w w' := by
  have KP := parse_any ⟨#[51, 32, 104, 111, 108, 100, 32, 48, 48, 10]⟩ (by decide) w hE
  rw [awake_parse] at KP
  have KP := Lib.hid KP
  have HE := Lib.hid hE
  have hlow := hE.low
  clear hE
  go_enter Tryd.func9, Tryd.ntmps9
  go_wp2_with fail
  refine KP.out.mono ?_
  rintro e w1 ⟨v, rfl, hown, b1⟩
  have hE1 := HE.out.below b1 hlow
  have KF := format_any (some ⟨w1.heap.size, 0, none⟩) 1 [⟨3, 3, 0⟩] (w1.alloc (.cells #[.int .i64 3, .int .i64 3, .int .i64 0] 28)) (fun i t hi => by
    have hi0 : i = 0 := by
      have := (List.getElem?_eq_some_iff.1 hi).1
      simp at this
      omega
    subst hi0
    simp at hi
    subst hi
    refine ⟨w1.heap.size, 0, rfl, (Blk.new w1 _ _).lt, fun j u hu => ?_⟩
    rw [Nat.zero_mul, Nat.zero_add, (Blk.new w1 28 #[.int .i64 3, .int .i64 3, .int .i64 0]).cell]
    unfold evC at hu
    simpa using hu) (by decide) (fun e he => by
    simp at he
    subst he
    exact ⟨by decide, by decide, by decide, by decide⟩) (hE1.below ((Below.refl w1.heap.size w1).alloc (Nat.le_refl _) _) (by have := hE1.low; omega))
  rw [awake_fmt] at KF
  have KF := Lib.hid KF
  have BEL := Lib.hid b1
  have sz := b1.size
  clear hE1 b1 hown
  go_wp2_with (first
    | ((with_reducible refine go_built 28 _ #[.int .i64 3, .int .i64 3, .int .i64 0] (by with_unfolding_all kernel_rfl) ?_))
    | ((with_reducible refine go_ev1 (.tmp 7) 3 3 0 (by with_unfolding_all rfl) ?_)))
  refine KF.out.mono ?_
  rintro e w2 ⟨rfl, b2⟩
  go_wp2_with fail
  go_ret
  exact ⟨rfl, (BEL.out.alloc (by omega) _).trans (b2.mono (by show w.heap.size ≤ (w1.heap.push _).size; rw [Array.size_push]; omega))⟩
end Go.Proofs.YtkafmpgihhnhdaaDoor

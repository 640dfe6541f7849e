/-
  cnclaw07.same: two stores that hold the same variables are found alike. Stores of 1 to 9 levels.
-/
import Derived.Test.YtdbhkpkndfhcoaaDoorRPop07
import Derived.Test.YtdbhkpkndfhcoaaDoorVKeeps07
namespace Go.Proofs.YtdbhkpkndfhcoaaDoor
open Go Go.RowKit
set_option linter.unusedVariables false

set_option maxRecDepth 100000 in
set_option maxHeartbeats 1000000 in
theorem same_any {b1 b2 s r g1 g2 c1 c2 n : Nat} {V : List Int} {C : Nat → Int} (w : World) (h : StAt w b1 s g1 c1 n V C) (k : RAt w b2 r g2 c2 n V C) :
    Calls Tryd.prog 23 #[.pointer (some ⟨s, 0, none⟩), .pointer (some ⟨r, 0, none⟩)] w fun e w' => e = .returned (.bool true) ∧ Below w.heap.size w w' := by
  go_enter Tryd.func23, Tryd.ntmps23
  go_wp2_with fail
  go_loopw [5] (fun s5 wr => ∃ i : Nat, i ≤ 17 ∧ s5 = .int .i64 i ∧ Below w.heap.size w wr)
    (fun s5 _ => 17 - (intOf s5).toNat)
  case atStart => exact ⟨0, by omega, rfl, Below.refl _ _⟩
  case round =>
    obtain ⟨i, hi, rfl, bel⟩ := hrel
    by_cases hlt : i < 17
    · have d1 : decide (i < 17) = true := by simp; omega
      have i3 : IntKind.i64.wrap ((i : Int) + 1) = (i : Int) + 1 := by rw [IntKind.wrap_i64]; omega
      have KV := Lib.hid (fun W => variable_any 0 (i : Int) 0 true (.slice none 0 0) rfl W)
      generalize varOf (i : Int) true = z at *
      go_wp2_with fail
      refine (KV.out _).mono ?_
      rintro e w1 ⟨rfl, b1'⟩
      have bel1 := bel.trans (b1'.mono bel.size)
      have K1 := Lib.hid (get_any z w1 (h.below bel1))
      have K2 := Lib.hid (fun m => rget_any z (w1.drewN m) ((k.below bel1).drewN m))
      generalize getV n V C z = p at *
      obtain ⟨pv, pe⟩ := p
      clear b1' bel KV
      go_wp2_with fail
      refine K1.out.mono ?_
      rintro e w' ⟨rfl, m, rfl⟩
      go_wp2_with fail
      refine (K2.out m).mono ?_
      rintro e w' ⟨rfl, m2, rfl⟩
      rw [World.drewN_drewN]
      go_wp2_with fail
      go_roundw
      case rel => exact ⟨i + 1, hlt, by go_num, below_drewN bel1 _⟩
      case measure => simp [intOf]; omega
    · obtain rfl : i = 17 := by omega
      have K1 := Lib.hid (level_any _ _ _ _ _ _ _ wr (h.below bel))
      have K2 := Lib.hid (rlevel_any _ _ _ _ _ _ _ wr (k.below bel))
      go_wp2_with fail
      refine K1.out.mono ?_
      rintro e w' ⟨rfl, rfl⟩
      go_wp2_with fail
      refine K2.out.mono ?_
      rintro e w' ⟨rfl, rfl⟩
      go_wp2_with fail
      go_ret
      exact ⟨rfl, bel⟩
end Go.Proofs.YtdbhkpkndfhcoaaDoor

/-
  EventBack returns true. Its argument: any.
-/
import Derived.Test.YtkafmpgihhnhdaaDoorAwake33
import Derived.Test.YtkafmpgihhnhdaaDoorSame33
import Derived.Test.YtkafmpgihhnhdaaDoorEvents33
namespace Go.Proofs.YtkafmpgihhnhdaaDoor
open Go Go.RowKit
set_option linter.unusedVariables false

set_option maxRecDepth 100000 in
set_option maxHeartbeats 1000000 in
theorem lback_walk (a0 : Option Addr) (len0 cap0 : Nat) (z0 : List Int) (w : World) (hE : Env w) (hr : IsRow .i64 w a0 len0 cap0 z0) : Calls Tryd.prog 5 #[.slice a0 len0 cap0] w fun e w' => e = .returned (.bool true) ∧ Below w.heap.size w w' := by
  have KA := Lib.hid (awake_true w hE)
  have HE := Lib.hid hE
  have HR := Lib.hid hr
  have hlow := hE.low
  clear hE hr
  by_cases h5 : 100 < len0
  · have d1 : decide (100 < len0) = true := by simpa using h5
    have d1' : decide (100 < (len0 : Int)) = true := decide_eq_true (by omega)
    go_enter Tryd.func5, Tryd.ntmps5
    go_wp2_with fail
    refine KA.out.mono ?_
    rintro e w1 ⟨rfl, b1⟩
    go_wp2_with fail
    go_ret
    exact ⟨rfl, b1⟩
  · have d1 : decide (100 < len0) = false := by simpa using h5
    have d1' : decide (100 < (len0 : Int)) = false := decide_eq_false (by omega)
    go_enter Tryd.func5, Tryd.ntmps5
    go_wp2_with fail
    refine KA.out.mono ?_
    rintro e w1 ⟨rfl, b1⟩
    have HE1 := Lib.hid (HE.out.below b1 hlow)
    have KV := Lib.hid (events_any w1 a0 len0 cap0 z0 (HR.out.below b1) (by omega))
    have BEL1 := Lib.hid b1
    have sz1 := b1.size
    clear b1 KA HE
    go_wp2_with fail
    refine KV.out.mono ?_
    rintro e w2 ⟨v, E, rfl, hv, hlen, hown, b2⟩
    obtain ⟨a2, c2, rfl, hat, _⟩ := evs_own hown
    have sz2 := b2.size
    have BEL2 := Lib.hid (BEL1.out.trans (b2.mono (by omega)))
    have HE2 := Lib.hid (HE1.out.below b2 (by omega))
    have KF := Lib.hid (format_any a2 c2 E w2 hat (by omega) (valid_ok hv) HE2.out)
    have HAT := Lib.hid hat
    have HV := Lib.hid hv
    have HLN := Lib.hid hlen
    clear hown hat b2 hv KV HE1 hlen
    go_wp2_with fail
    refine KF.out.mono ?_
    rintro e w3 ⟨rfl, b3⟩
    have BEL3 := Lib.hid (BEL2.out.trans (b3.mono (by omega)))
    have HE3 := Lib.hid (HE2.out.below b3 (by omega))
    have HAT3 := Lib.hid (HAT.out.below b3)
    have sz3 := b3.size
    have KP := parse_any (mkB (fmtL E)) (by have := fmtL_len (valid_ok HV.out); have := HLN.out; rw [mkB_size]; omega) w3 HE3.out
    rw [bl_mkB, parse_fmt HV.out] at KP
    have KP := Lib.hid KP
    clear b3 KF HAT HE2
    go_wp2_with fail
    refine KP.out.mono ?_
    rintro e w4 ⟨v4, rfl, hown, b4⟩
    simp only at hown
    obtain ⟨a4, c4, rfl, hat, _⟩ := evs_own hown
    have BEL4 := Lib.hid (BEL3.out.trans (b4.mono (by omega)))
    have sz4 := b4.size
    have KS := Lib.hid (same_any a4 a2 c4 c2 E w4 hat (HAT3.out.below b4) (by have := HLN.out; omega))
    clear hown hat b4 HAT3 KP
    go_wp2_with fail
    refine KS.out.mono ?_
    rintro e w5 ⟨rfl, b5⟩
    go_wp2_with fail
    go_ret
    exact ⟨rfl, BEL4.out.trans (b5.mono (by omega))⟩
end Go.Proofs.YtkafmpgihhnhdaaDoor

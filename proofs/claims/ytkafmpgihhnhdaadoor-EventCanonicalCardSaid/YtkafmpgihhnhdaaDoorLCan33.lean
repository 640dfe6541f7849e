/-
  EventCanonical returns true. Its argument: any.
-/
import Derived.Test.YtkafmpgihhnhdaaDoorAwake33
namespace Go.Proofs.YtkafmpgihhnhdaaDoor
open Go Go.RowKit
set_option linter.unusedVariables false

theorem self_eq (s : ByteArray) : (s.toList == s.toList) = true := by simp
set_option maxRecDepth 100000 in
set_option maxHeartbeats 1000000 in
theorem lcan_walk (s : ByteArray) (w : World) (hE : Env w) : Calls Tryd.prog 7 #[.string s] w fun e w' => e = .returned (.bool true) ∧ Below w.heap.size w w' := by
  have KA := Lib.hid (awake_true w hE)
  have HE := Lib.hid hE
  have hlow := hE.low
  clear hE
  by_cases h5 : 500 < s.size
  · have d1 : decide (500 < s.size) = true := by simpa using h5
    have d1' : decide (500 < (s.size : Int)) = true := decide_eq_true (by omega)
    go_enter Tryd.func7, Tryd.ntmps7
    go_wp2_with fail
    refine KA.out.mono ?_
    rintro e w1 ⟨rfl, b1⟩
    go_wp2_with fail
    go_ret
    exact ⟨rfl, b1⟩
  · have d1 : decide (500 < s.size) = false := by simpa using h5
    have d1' : decide (500 < (s.size : Int)) = false := decide_eq_false (by omega)
    go_enter Tryd.func7, Tryd.ntmps7
    go_wp2_with fail
    refine KA.out.mono ?_
    rintro e w1 ⟨rfl, b1⟩
    have HE1 := Lib.hid (HE.out.below b1 hlow)
    have KP := Lib.hid (parse_any s (by omega) w1 HE1.out)
    have BEL1 := Lib.hid b1
    have sz1 := b1.size
    clear b1 KA
    go_wp2_with fail
    refine KP.out.mono ?_
    rintro e w2 ⟨v, rfl, hown, b2⟩
    obtain ⟨a2, c2, rfl, hat, _⟩ := evs_own hown
    have sz2 := b2.size
    have BEL2 := Lib.hid (BEL1.out.trans (b2.mono (by omega)))
    have HE2 := Lib.hid (HE1.out.below b2 (by omega))
    by_cases h0 : (parseR (bl s)).2 = 0
    · obtain ⟨p1, p2⟩ := parse_back h0
      obtain ⟨E, hEq⟩ : ∃ E, (parseR (bl s)).1 = E := ⟨_, rfl⟩
      rw [hEq] at hat p1 p2
      simp only [h0, hEq]
      have hlen : E.length ≤ 2000 := by
        unfold validE at p2
        rw [Bool.and_eq_true] at p2
        exact of_decide_eq_true p2.1
      have KF := format_any a2 c2 E w2 hat hlen (valid_ok p2) HE2.out
      rw [p1, mkB_bl] at KF
      have KF := Lib.hid KF
      have KV := Lib.hid (fun W (hb : Below w2.heap.size w2 W) => valid_any a2 c2 E W (hat.below hb) (by omega))
      have P2 := Lib.hid p2
      clear hown hat b2 h0 p1 p2 hEq KP
      have se := self_eq s
      go_wp2_with fail
      refine KF.out.mono ?_
      rintro e w3 ⟨rfl, b3⟩
      have BEL3 := Lib.hid (BEL2.out.trans (b3.mono (by omega)))
      have sz3 := b3.size
      have KV3 := KV.out w3 b3
      rw [P2.out] at KV3
      have KV3 := Lib.hid KV3
      clear b3 KV KF
      go_wp2_with fail
      refine KV3.out.mono ?_
      rintro e w4 ⟨rfl, b4⟩
      go_wp2_with fail
      go_ret
      exact ⟨rfl, BEL3.out.trans (b4.mono (by omega))⟩
    · have hnil := parse_err h0
      rw [hnil]
      obtain ⟨x, hx⟩ : ∃ x, (parseR (bl s)).2 = x := ⟨_, rfl⟩
      rw [hx] at h0 ⊢
      have d3 : (x != 0) = true := bne_iff_ne.2 h0
      clear hown hat b2 hnil hx h0 KP
      go_wp2_with fail
      go_ret
      exact ⟨rfl, BEL2.out⟩
end Go.Proofs.YtkafmpgihhnhdaaDoor

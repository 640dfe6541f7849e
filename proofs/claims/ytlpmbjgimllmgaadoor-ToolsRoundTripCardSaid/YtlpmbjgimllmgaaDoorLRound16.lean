/-
  ToolsRoundTrip returns true. Its arguments: any.
-/
import Derived.Test.YtlpmbjgimllmgaaDoorParse16
import Derived.Test.YtlpmbjgimllmgaaDoorSame16
namespace Go.Proofs.YtlpmbjgimllmgaaDoor
open Go Go.RowKit
set_option linter.unusedVariables false

theorem fmt_of {l : List To} (h : validT l = true) : formatT l = fmtOs l := by unfold formatT; rw [if_pos h]
theorem self_str (s : ByteArray) : (s.toList == s.toList) = true := by simp
set_option maxRecDepth 100000 in
set_option maxHeartbeats 2000000 in
theorem lround_walk (a0 : Option Addr) (len0 cap0 : Nat) (z0 : List Int) (s : ByteArray) (w : World) (hE : Env w) (hr : IsRow .i64 w a0 len0 cap0 z0) : Calls Tryd.prog 5 #[.slice a0 len0 cap0, .string s] w fun e w' => e = .returned (.bool true) ∧ Below w.heap.size w w' := by
  have KLI := light_any w a0 len0 cap0
  have HE0 := Lib.hid hE
  have HR := Lib.hid hr
  have hlow := hE.low
  have hmost := hr.most
  have KA0 := Lib.hid (awake_true w HE0.out)
  clear hE hr
  by_cases h120 : len0 ≤ 120
  · rw [decide_eq_true h120] at KLI
    have KLI := Lib.hid KLI
    by_cases h200 : 200 < s.size
    · have d1 : decide (200 < s.size) = true := decide_eq_true h200
      have d1' : decide (200 < (s.size : Int)) = true := decide_eq_true (by omega)
      go_enter Tryd.func5, Tryd.ntmps5
      go_wp2_with fail
      refine KLI.out.mono ?_
      rintro e w' ⟨rfl, rfl⟩
      go_wp2_with fail
      refine KA0.out.mono ?_
      rintro e w1 ⟨rfl, b1⟩
      go_wp2_with fail
      go_ret
      exact ⟨rfl, b1⟩
    · have d1 : decide (200 < s.size) = false := decide_eq_false h200
      have d1' : decide (200 < (s.size : Int)) = false := decide_eq_false (by omega)
      have KT := Lib.hid (table_any w a0 len0 cap0 z0 HR.out (by omega))
      clear KA0
      go_enter Tryd.func5, Tryd.ntmps5
      go_wp2_with fail
      refine KLI.out.mono ?_
      rintro e w' ⟨rfl, rfl⟩
      clear KLI
      go_wp2_with fail
      refine KT.out.mono ?_
      rintro e w2 ⟨v, ts, rfl, hv, hlen, hown, b2⟩
      obtain ⟨a2, c2, rfl, hat, _⟩ := tos_own hown
      have sz2 := b2.size
      have BEL2 := Lib.hid b2
      have HV := Lib.hid hv
      have HAT2 := Lib.hid hat
      obtain ⟨N, hN⟩ : ∃ N, ts.length = N := ⟨_, rfl⟩
      have HN := Lib.hid hN
      have KF := format_any a2 c2 ts w2 hat (by omega) (HE0.out.below b2 hlow)
      rw [fmt_of hv, hN] at KF
      have KF := Lib.hid KF
      have hlenT : (mkB (fmtOs ts)).size ≤ 1000000 := by
        rw [mkB_size]
        have := fmtOs_len (validT_all hv).2
        omega
      have hN5 : N ≤ 5 := by omega
      rw [hN]
      clear KT hown b2 hv hlen hat hN
      go_wp2_with fail
      refine KF.out.mono ?_
      rintro e w3 ⟨rfl, b3⟩
      have BEL3 := Lib.hid (BEL2.out.trans (b3.mono sz2))
      have HAT3 := Lib.hid (HAT2.out.below b3)
      have KP := parse_any (mkB (fmtOs ts)) hlenT w3 (HE0.out.below BEL3.out hlow)
      rw [bl_mkB, parse_fmt HV.out, HN.out] at KP
      have KP := Lib.hid KP
      have sz3 := BEL3.out.size
      clear b3 KF BEL2 HAT2 hlenT
      go_wp2_with fail
      refine KP.out.mono ?_
      rintro e w4 ⟨v4, rfl, hown4, b4⟩
      simp only at hown4
      obtain ⟨a4, c4, rfl, hat4, _⟩ := tos_own hown4
      have BEL4 := Lib.hid (BEL3.out.trans (b4.mono sz3))
      have HAT4 := Lib.hid (HAT3.out.below b4)
      have HBT4 := Lib.hid hat4
      have KP2 := Lib.hid (parse_any s (by omega) w4 (HE0.out.below BEL4.out hlow))
      have sz4 := BEL4.out.size
      simp only [HN.out]
      clear hown4 hat4 b4 KP BEL3 HAT3
      obtain ⟨r, hr⟩ : ∃ r, parseT (bl s) = r := ⟨_, rfl⟩
      have HRR := Lib.hid hr
      rw [hr] at KP2
      clear hr
      go_wp2_with fail
      refine KP2.out.mono ?_
      rintro e w5 ⟨v5, rfl, hown5, b5⟩
      obtain ⟨E, m, x⟩ := r
      simp only at hown5
      simp only
      obtain ⟨a5, c5, rfl, hat5, _⟩ := tos_own hown5
      have BEL5 := Lib.hid (BEL4.out.trans (b5.mono sz4))
      have HAT5 := Lib.hid (HAT4.out.below b5)
      have HBT5 := Lib.hid (HBT4.out.below b5)
      have HCT5 := Lib.hid hat5
      have sz5 := BEL5.out.size
      have KA := Lib.hid (awake_true w5 (HE0.out.below BEL5.out hlow))
      clear hown5 hat5 b5 KP2 BEL4 HAT4 HBT4
      go_wp2_with fail
      refine KA.out.mono ?_
      rintro e w6 ⟨rfl, b6⟩
      have BEL6 := Lib.hid (BEL5.out.trans (b6.mono sz5))
      have sz6 := BEL6.out.size
      have HCT6 := Lib.hid (HCT5.out.below b6)
      have KS := same_any a4 a2 c4 c2 ts w6 (HBT5.out.below b6) (HAT5.out.below b6) (by have := HN.out; omega)
      rw [HN.out] at KS
      have KS := Lib.hid KS
      clear b6 KA BEL5 HAT5 HBT5 HCT5
      go_wp2_with fail
      refine KS.out.mono ?_
      rintro e w7 ⟨rfl, b7⟩
      have BEL7 := Lib.hid (BEL6.out.trans (b7.mono sz6))
      have sz7 := BEL7.out.size
      have HCT7 := Lib.hid (HCT6.out.below b7)
      clear b7 KS BEL6 HCT6
      by_cases hx : x = 0
      · subst hx
        have hb := parse_back (l := bl s) (by rw [HRR.out])
        rw [HRR.out] at hb
        obtain ⟨h1, h2, h3⟩ := hb
        simp only at h1 h2 h3
        have KF8 := format_any a5 c5 E w7 HCT7.out (by have := (validT_all h2).1; omega) (HE0.out.below BEL7.out hlow)
        rw [fmt_of h2, h1, mkB_bl] at KF8
        have KF8 := Lib.hid KF8
        have se := self_str s
        clear h1 h2 h3 HCT7
        go_wp2_with fail
        refine KF8.out.mono ?_
        rintro e w8 ⟨rfl, b8⟩
        go_wp2_with fail
        go_ret
        exact ⟨rfl, BEL7.out.trans (b8.mono sz7)⟩
      · have dx : (x != 0) = true := bne_iff_ne.2 hx
        clear hx
        go_wp2_with fail
        go_ret
        exact ⟨rfl, BEL7.out⟩
  · rw [decide_eq_false h120] at KLI
    have KLI := Lib.hid KLI
    go_enter Tryd.func5, Tryd.ntmps5
    go_wp2_with fail
    refine KLI.out.mono ?_
    rintro e w' ⟨rfl, rfl⟩
    go_wp2_with fail
    refine KA0.out.mono ?_
    rintro e w1 ⟨rfl, b1⟩
    go_wp2_with fail
    go_ret
    exact ⟨rfl, b1⟩
end Go.Proofs.YtlpmbjgimllmgaaDoor

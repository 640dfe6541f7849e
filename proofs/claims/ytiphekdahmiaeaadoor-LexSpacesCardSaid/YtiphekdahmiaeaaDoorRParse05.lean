/-
  cncref02.Parse: what it computes. Any string.
-/
import Derived.Test.YtiphekdahmiaeaaDoorParse05
namespace Go.Proofs.YtiphekdahmiaeaaDoor
open Go Go.RowKit
set_option linter.unusedVariables false
attribute [local go_sem ↓] ix_run

theorem p10_step' (n : Int) {b : Nat} (h : b < 6) : 10 * n * p10 (6 - (b + 1)) = n * p10 (6 - b) := by
  rw [← p10_step n h, Int.mul_comm 10 n]
set_option maxRecDepth 100000 in
set_option maxHeartbeats 2000000 in
theorem rparse_any (s : ByteArray) (hs : s.size ≤ 4611686018427387904) (w : World) : Calls Tryd.prog 31 #[.string s] w (ParsePost (scanR (bl s) 0 0 false 0) w) := by
  go_enter Tryd.func31, Tryd.ntmps31
  go_wp2_with fail
  go_loopw [4, 5, 6, 7, 8] (fun s4 s5 s6 s7 s8 wr => ∃ (i wh pt : Nat) (p : Bool) (n : Int), i ≤ s.size ∧ wh ≤ 9 ∧ pt ≤ 6 ∧ s8 = .int .i64 i ∧ s4 = .int .i64 wh ∧ s5 = .int .i64 pt ∧ s6 = .bool p ∧ s7 = .int .i64 n ∧ 0 ≤ n ∧ n < p10 (wh + pt) ∧ scanR ((bl s).drop i) wh pt p n = scanR (bl s) 0 0 false 0 ∧ w = wr)
    (fun _ _ _ _ s8 _ => s.size - (intOf s8).toNat)
  case atStart => exact ⟨0, 0, 0, false, 0, by omega, by omega, by omega, rfl, rfl, rfl, rfl, rfl, by omega, by decide, rfl, rfl⟩
  case round =>
    obtain ⟨i, wh, pt, p, n, hi, hwh, hpt, rfl, rfl, rfl, rfl, rfl, hn0, hnb, hf, rfl⟩ := hrel
    have i0 : (0 : Int) ≤ (i : Int) := by omega
    have wh0 : (0 : Int) ≤ (wh : Int) := by omega
    have pt0 : (0 : Int) ≤ (pt : Int) := by omega
    have f9 : decide (9 < wh) = false := by simp; omega
    have f9' : decide ((9 : Int) < (wh : Int)) = false := by simp; omega
    have f6 : decide (6 < pt) = false := by simp; omega
    have f6' : decide ((6 : Int) < (pt : Int)) = false := by simp; omega
    have hnx : n < 1000000000000000 := by have := p10_mono (show wh + pt ≤ 15 by omega); have : p10 15 = 1000000000000000 := rfl; omega
    by_cases hlt : i < s.size
    · have d1 : decide (i < s.size) = true := by simpa using hlt
      have hb := byt_bd s i
      rw [scanR_drop hlt] at hf
      have KD := fun W => rdigit_any (byt s i) W
      have hnb' : p10 (wh + pt + 1) = 10 * p10 (wh + pt) := p10_succ _
      have wc1 : ((wh + 1 : Nat) : Int) = (wh : Int) + 1 := by omega
      clear wc1
      by_cases h46 : byt s i = 46
      · have t46 : (byt s i == 46) = true := by simpa using h46
        have hd : digB (byt s i) = false := by rw [h46]; rfl
        simp only [hd] at KD
        have KK := Lib.hid KD
        cases p
        · rw [if_pos ⟨h46, rfl⟩] at hf
          have HF := Lib.hid hf
          have HB := Lib.hid hnb
          clear hf hd KD h46 hnb hnb'
          go_wp2_with fail
          refine (KK.out _).mono ?_
          rintro e w' ⟨rfl, rfl⟩
          go_wp2_with fail
          go_roundw
          case rel => exact ⟨i + 1, wh, pt, true, n, by omega, by omega, by omega, by go_num, rfl, rfl, rfl, rfl, by omega, HB.out, HF.out, trivial⟩
          case measure => simp [intOf]; omega
        · rw [if_neg (fun x => by cases x.2), if_pos hd] at hf
          have R := Lib.hid hf.symm
          clear hf hd KD h46 hnb hnb'
          go_wp2_with fail
          refine (KK.out _).mono ?_
          rintro e w' ⟨rfl, rfl⟩
          go_wp2_with fail
          go_ret2
          exact fin_none R.out
      · have t46 : (byt s i == 46) = false := by simpa using h46
        rw [if_neg (fun x => h46 x.1)] at hf
        cases hd : digB (byt s i)
        · simp only [hd] at KD
          have KK := Lib.hid KD
          rw [if_pos hd] at hf
          have R := Lib.hid hf.symm
          clear hf hd KD h46 hnb hnb'
          go_wp2_with fail
          refine (KK.out _).mono ?_
          rintro e w' ⟨rfl, rfl⟩
          go_wp2_with fail
          go_ret2
          exact fin_none R.out
        · simp only [hd] at KD
          have KK := Lib.hid KD
          rw [if_neg (by rw [hd]; simp)] at hf
          have hdd : 48 ≤ byt s i ∧ byt s i ≤ 57 := by unfold digB at hd; simpa using hd
          cases p
          · rw [if_neg (by simp)] at hf
            by_cases h9 : wh + 1 ≤ 9
            · have g9 : decide (9 < wh + 1) = false := by simp; omega
              have g9' : decide ((9 : Int) < (wh : Int) + 1) = false := by simp; omega
              rw [if_neg (by omega)] at hf
              have HF := Lib.hid hf
              have HX : Hid (10 * n + (byt s i - 48) < p10 (wh + 1 + pt)) := Lib.hid (by rw [show wh + 1 + pt = wh + pt + 1 by omega]; omega)
              clear hf hd KD h46 hnb hnb'
              go_wp2_with fail
              refine (KK.out _).mono ?_
              rintro e w' ⟨rfl, rfl⟩
              go_wp2_with fail
              refine (KK.out _).mono ?_
              rintro e w' ⟨rfl, rfl⟩
              go_wp2_with fail
              go_roundw
              case rel => exact ⟨i + 1, wh + 1, pt, false, _, by omega, by omega, by omega, by go_num, by go_num, rfl, rfl, rfl, by omega, HX.out, HF.out, trivial⟩
              case measure => simp [intOf]; omega
            · have g9 : decide (9 < wh + 1) = true := by simp; omega
              have g9' : decide ((9 : Int) < (wh : Int) + 1) = true := by simp; omega
              rw [if_pos (by omega)] at hf
              have R := Lib.hid hf.symm
              clear hf hd KD h46 hnb hnb'
              go_wp2_with fail
              refine (KK.out _).mono ?_
              rintro e w' ⟨rfl, rfl⟩
              go_wp2_with fail
              go_ret2
              exact fin_none R.out
          · rw [if_pos rfl] at hf
            by_cases h6 : pt + 1 ≤ 6
            · have g6 : decide (6 < pt + 1) = false := by simp; omega
              have g6' : decide ((6 : Int) < (pt : Int) + 1) = false := by simp; omega
              rw [if_neg (by omega)] at hf
              have HF := Lib.hid hf
              have HX : Hid (10 * n + (byt s i - 48) < p10 (wh + (pt + 1))) := Lib.hid (by rw [show wh + (pt + 1) = wh + pt + 1 by omega]; omega)
              clear hf hd KD h46 hnb hnb'
              go_wp2_with fail
              refine (KK.out _).mono ?_
              rintro e w' ⟨rfl, rfl⟩
              go_wp2_with fail
              refine (KK.out _).mono ?_
              rintro e w' ⟨rfl, rfl⟩
              go_wp2_with fail
              go_roundw
              case rel => exact ⟨i + 1, wh, pt + 1, true, _, by omega, by omega, by omega, by go_num, rfl, by go_num, rfl, rfl, by omega, HX.out, HF.out, trivial⟩
              case measure => simp [intOf]; omega
            · have g6 : decide (6 < pt + 1) = true := by simp; omega
              have g6' : decide ((6 : Int) < (pt : Int) + 1) = true := by simp; omega
              rw [if_pos (by omega)] at hf
              have R := Lib.hid hf.symm
              clear hf hd KD h46 hnb hnb'
              go_wp2_with fail
              refine (KK.out _).mono ?_
              rintro e w' ⟨rfl, rfl⟩
              go_wp2_with fail
              go_ret2
              exact fin_none R.out
    · have d1 : decide (i < s.size) = false := by simpa using hlt
      rw [scanR_end (by omega)] at hf
      by_cases h00 : wh + pt = 0
      · have e3 : ((wh : Int) + (pt : Int) == 0) = true := by simp; omega
        rw [if_pos h00] at hf
        have R := Lib.hid hf.symm
        clear hf hnb h00
        go_wp2_with fail
        go_ret2
        exact fin_none R.out
      · have e3 : ((wh : Int) + (pt : Int) == 0) = false := by simp; omega
        rw [if_neg h00] at hf
        obtain ⟨V, ev⟩ : ∃ V, n * p10 (6 - pt) = V := ⟨_, rfl⟩
        have hVb : V ≤ 10000000000000000 := by rw [← ev]; exact scale_bd hn0 hnb (by omega)
        have EV := Lib.hid ev
        rw [ev] at hf
        have R := Lib.hid hf.symm
        clear hf hnb ev h00
        go_wp2_with fail
        go_loopw [5, 7] (fun s5 s7 wr => ∃ (b' : Nat) (m' : Int), b' ≤ 6 ∧ s5 = .int .i64 b' ∧ s7 = .int .i64 m' ∧ 0 ≤ m' ∧ m' * p10 (6 - b') = V ∧ w = wr)
          (fun s5 _ _ => 6 - (intOf s5).toNat)
        case atStart => exact ⟨pt, n, by omega, rfl, rfl, by omega, EV.out, rfl⟩
        case round =>
          obtain ⟨b', m', hb', rfl, rfl, hm', hv', rfl⟩ := hrel
          have hle := scale_le hm' hv'
          have b0 : (0 : Int) ≤ (b' : Int) := by omega
          by_cases hl6 : b' < 6
          · have e6 : decide (b' < 6) = true := by simpa using hl6
            have HV := Lib.hid ((p10_step' m' hl6).trans hv')
            clear hv'
            go_wp2_with fail
            go_roundw
            case rel => exact ⟨b' + 1, 10 * m', by omega, by go_num, rfl, by omega, HV.out, trivial⟩
            case measure => simp [intOf]; omega
          · obtain rfl : b' = 6 := by omega
            have e6 : decide (6 < 6) = false := rfl
            have HV := Lib.hid hv'
            clear hv'
            go_wp2_with fail
            go_ret2
            exact fin_some R.out HV.out
end Go.Proofs.YtiphekdahmiaeaaDoor

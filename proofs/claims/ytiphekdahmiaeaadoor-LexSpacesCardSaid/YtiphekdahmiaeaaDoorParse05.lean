/-
  fixed.Parse: what it computes. Any string.
-/
import Derived.Test.YtiphekdahmiaeaaDoorLeaf05
import Derived.Lib.Hide
namespace Go.Proofs.YtiphekdahmiaeaaDoor
open Go Go.RowKit
set_option linter.unusedVariables false

theorem ix_run (s : ByteArray) (i : Nat) (h : i < s.size) (W : World) : (Instr.index 9 (.string s) (.int .i64 i)).run Tryd.prog W = .ok (.int .u8 (byt s i)) W := by
  rw [run_index_string W 9 s .i64 i Tryd.underlying9, dif_pos ⟨by omega, by omega⟩, byt_at s i h]
  rfl
def pv : Option Int → Int | some v => v | none => 0
def pe : Option Int → Int | some _ => 0 | none => 2
theorem head_byt (s : ByteArray) (k : Nat) (h : k < s.size) : ((bl s).drop k).head? = some 46 ↔ byt s k = 46 := by
  obtain ⟨c, e1, e2⟩ := drop_byt s k h
  rw [e1, e2]
  simp only [List.head?_cons, Option.some.injEq]
  constructor
  · rintro rfl; rfl
  · intro e; exact UInt8.toNat_inj.1 (by simpa using (by omega : c.toNat = 46))
theorem head_end (s : ByteArray) (k : Nat) (h : s.size ≤ k) : ((bl s).drop k).head? ≠ some 46 := by
  rw [List.drop_eq_nil_of_le (by rw [bl_len]; exact h)]; simp
theorem parse_long {l : List UInt8} {k : Nat} {n : Int} (h : fr 9 l 0 0 = (k, n)) (hk : 9 < k) : parseF l = none := by
  unfold parseF; rw [h, if_pos hk]
theorem parse_odd {l : List UInt8} {k : Nat} {n : Int} (h : fr 9 l 0 0 = (k, n)) (hd : (l.drop k).head? ≠ some 46) (hk : k < l.length) : parseF l = none := by
  unfold parseF; rw [h]
  simp only
  by_cases h9 : 9 < k
  · rw [if_pos h9]
  · rw [if_neg h9, if_neg hd, if_pos (.inl hk)]
theorem parse_whole {l : List UInt8} {k : Nat} {n : Int} (h : fr 9 l 0 0 = (k, n)) (hk : k ≤ 9) (hl : k = l.length) (h0 : 0 < k) : parseF l = some (n * p10 6) := by
  unfold parseF; rw [h]
  simp only
  rw [if_neg (by omega), if_neg (by rw [List.drop_eq_nil_of_le (by omega)]; simp), if_neg (by omega)]
theorem parse_empty {l : List UInt8} {k : Nat} {n : Int} (h : fr 9 l 0 0 = (k, n)) (hl : k = l.length) (h0 : k = 0) : parseF l = none := by
  unfold parseF; rw [h]
  simp only
  rw [if_neg (by omega), if_neg (by rw [List.drop_eq_nil_of_le (by omega)]; simp), if_pos (.inr h0)]
theorem parse_point {l : List UInt8} {k b : Nat} {n m : Int} (h : fr 9 l 0 0 = (k, n)) (hk : k ≤ 9) (hd : (l.drop k).head? = some 46) (h2 : fr 6 (l.drop (k + 1)) 0 n = (b, m)) :
    parseF l = if b < l.length - (k + 1) ∨ 6 < b ∨ k + b = 0 then none else some (m * p10 (6 - b)) := by
  unfold parseF; rw [h]
  simp only
  rw [if_neg (by omega), if_pos hd, h2, List.length_drop]
attribute [local go_sem ↓] ix_run

def ParsePost (r : Option Int) (w : World) (e : Ending) (w' : World) : Prop := e = .returned (.tuple #[.int .i64 (pv r), .int .i64 (pe r)]) ∧ w = w'
theorem p10_9 {k : Nat} (h : k ≤ 9) : p10 k ≤ 1000000000 := p10_mono h
theorem p10_16 {k : Nat} (h : k ≤ 16) : p10 k ≤ 10000000000000000 := p10_mono h
theorem scale_le {n V : Int} {b : Nat} (h0 : 0 ≤ n) (h : n * p10 b = V) : n ≤ V := by
  have := p10_pos b
  calc n = n * 1 := by omega
    _ ≤ n * p10 b := Int.mul_le_mul_of_nonneg_left this h0
    _ = V := h
theorem scale_bd {n : Int} {k b : Nat} (h0 : 0 ≤ n) (h : n < p10 k) (hk : k + b ≤ 16) : n * p10 b ≤ 10000000000000000 := by
  have h1 : n * p10 b ≤ p10 k * p10 b := Int.mul_le_mul_of_nonneg_right (by omega) (by have := p10_pos b; omega)
  have h2 : p10 k * p10 b = p10 (k + b) := by unfold p10; rw [Int.pow_add]
  have h3 := p10_16 hk
  omega
theorem p10_step (n : Int) {b : Nat} (h : b < 6) : n * 10 * p10 (6 - (b + 1)) = n * p10 (6 - b) := by
  rw [show 6 - b = (6 - (b + 1)) + 1 by omega, p10_succ, Int.mul_assoc]
theorem fin_none {w : World} {r : Option Int} (h : r = none) : ParsePost r w (.returned (.tuple #[.int .i64 0, .int .i64 2])) w := by subst h; exact ⟨rfl, rfl⟩
theorem fin_some {w : World} {r : Option Int} {V m : Int} (h : r = some V) (e : m * p10 (6 - 6) = V) : ParsePost r w (.returned (.tuple #[.int .i64 m, .int .i64 0])) w := by
  subst h
  have : m = V := by rw [← e]; show m = m * 1; omega
  subst this
  exact ⟨rfl, rfl⟩
set_option maxRecDepth 100000 in
set_option maxHeartbeats 2000000 in
theorem fparse_any (s : ByteArray) (hs : s.size ≤ 4611686018427387904) (w : World) : Calls Tryd.prog 38 #[.string s] w (ParsePost (parseF (bl s)) w) := by
  have hlen := bl_len s
  have HL := Lib.hid hlen
  clear hlen
  go_enter Tryd.func38, Tryd.ntmps38
  go_wp2_with fail
  go_loopw [4, 5] (fun s4 s5 wr => ∃ (k : Nat) (n : Int), k ≤ s.size ∧ k ≤ 10 ∧ s4 = .int .i64 k ∧ s5 = .int .i64 n ∧ 0 ≤ n ∧ n < p10 k ∧ fr 9 ((bl s).drop k) k n = fr 9 (bl s) 0 0 ∧ w = wr)
    (fun s4 _ _ => s.size - (intOf s4).toNat)
  case atStart => exact ⟨0, 0, by omega, by omega, rfl, rfl, by omega, by decide, rfl, rfl⟩
  case round =>
    obtain ⟨k, n, hk, hk10, rfl, rfl, hn0, hnk, hf, rfl⟩ := hrel
    have k0 : (0 : Int) ≤ (k : Int) := by omega
    by_cases hlt : k < s.size
    · have d1 : decide (k < s.size) = true := by simpa using hlt
      have hb := byt_bd s k
      rw [fr_drop hlt] at hf
      have KD := fun W => fdigit_any (byt s k) W
      cases hd : digB (byt s k)
      · rw [hd] at hf
        simp only [hd] at KD
        have KK := Lib.hid KD
        rw [if_neg (by simp)] at hf
        have hf := hf.symm
        by_cases h46 : byt s k = 46
        · have t46 : (byt s k == 46) = true := by simpa using h46
          have hh := (head_byt s k hlt).2 h46
          have F := Lib.hid hf
          have HH := Lib.hid hh
          clear hf hh hd KD h46
          by_cases h9 : k ≤ 9
          · have d9 : decide ((9 : Int) < (k : Int)) = false := by simp; omega
            have d9' : decide (9 < k) = false := by simp; omega
            go_wp2_with fail
            refine (KK.out _).mono ?_
            rintro e w' ⟨rfl, rfl⟩
            go_wp2_with fail
            go_loopw [4, 5, 7] (fun s4 s5 s7 wr => ∃ (j b : Nat) (m : Int), j ≤ s.size ∧ b ≤ 7 ∧ k + 1 + b = j ∧ s4 = .int .i64 j ∧ s5 = .int .i64 m ∧ s7 = .int .i64 b ∧ 0 ≤ m ∧ m < p10 (k + b) ∧ fr 6 ((bl s).drop j) b m = fr 6 ((bl s).drop (k + 1)) 0 n ∧ w = wr)
              (fun s4 _ _ _ => s.size - (intOf s4).toNat)
            case atStart => exact ⟨k + 1, 0, n, by omega, by omega, rfl, by go_num, rfl, rfl, hn0, hnk, rfl, rfl⟩
            case round =>
              obtain ⟨j, b, m, hj, hb7, ej, rfl, rfl, rfl, hm0, hmb, hg, rfl⟩ := hrel
              have EJ := Lib.hid ej
              have j0 : (0 : Int) ≤ (j : Int) := by omega
              have b00 : (0 : Int) ≤ (b : Int) := by omega
              have hmx : m < 10000000000000000 := by have := p10_16 (show k + b ≤ 16 by omega); omega
              by_cases hjl : j < s.size
              · have e1 : decide (j < s.size) = true := by simpa using hjl
                have hb2 := byt_bd s j
                rw [fr_drop hjl] at hg
                have KD := fun W => fdigit_any (byt s j) W
                cases hd2 : digB (byt s j)
                · rw [hd2, if_neg (by simp)] at hg
                  simp only [hd2] at KD
                  have KK2 := Lib.hid KD
                  have R := Lib.hid ((parse_point F.out h9 HH.out hg.symm).trans (if_pos (.inl (by rw [HL.out]; omega))))
                  clear hg hd2 KD ej hmb hnk
                  go_wp2_with fail
                  refine (KK2.out _).mono ?_
                  rintro e w' ⟨rfl, rfl⟩
                  go_wp2_with fail
                  go_ret2
                  exact fin_none R.out
                · simp only [hd2] at KD
                  have KK2 := Lib.hid KD
                  have hdd : 48 ≤ byt s j ∧ byt s j ≤ 57 := by unfold digB at hd2; simpa using hd2
                  by_cases h6 : b ≤ 6
                  · have e2 : decide (b ≤ 6) = true := by simpa using h6
                    rw [hd2, if_pos ⟨rfl, h6⟩] at hg
                    have HG := Lib.hid hg
                    have hx := p10_16 (show k + b ≤ 16 by omega)
                    have hnx : 10 * m + (byt s j - 48) < p10 (k + (b + 1)) := by rw [show k + (b + 1) = (k + b) + 1 by omega, p10_succ]; omega
                    have HX := Lib.hid hnx
                    clear hg hd2 KD ej hmb hnk hnx hx
                    go_wp2_with fail
                    refine (KK2.out _).mono ?_
                    rintro e w' ⟨rfl, rfl⟩
                    go_wp2_with fail
                    go_roundw
                    case rel => exact ⟨j + 1, b + 1, _, by omega, by omega, by rw [← EJ.out]; omega, by go_num, rfl, by go_num, by omega, HX.out, HG.out, trivial⟩
                    case measure => simp [intOf]; omega
                  · have e2 : decide (b ≤ 6) = false := by simp; omega
                    rw [if_neg (fun x => h6 x.2)] at hg
                    have R := Lib.hid ((parse_point F.out h9 HH.out hg.symm).trans (if_pos (.inr (.inl (by omega)))))
                    clear hg hd2 KD ej hmb hnk
                    go_wp2_with fail
                    refine (KK2.out _).mono ?_
                    rintro e w' ⟨rfl, rfl⟩
                    go_wp2_with fail
                    go_ret2
                    exact fin_none R.out
              · have e1 : decide (j < s.size) = false := by simpa using hjl
                rw [fr_end (by omega)] at hg
                by_cases h6 : b ≤ 6
                · have e2 : decide (6 < b) = false := by simp; omega
                  have e2' : decide ((6 : Int) < (b : Int)) = false := by simp; omega
                  by_cases h00 : k + b = 0
                  · have e3 : ((k : Int) + (b : Int) == 0) = true := by simp; omega
                    have R := Lib.hid ((parse_point F.out h9 HH.out hg.symm).trans (if_pos (.inr (.inr h00))))
                    clear hg ej hmb hnk h00
                    go_wp2_with fail
                    go_ret2
                    exact fin_none R.out
                  · have e3 : ((k : Int) + (b : Int) == 0) = false := by simp; omega
                    have R := Lib.hid ((parse_point F.out h9 HH.out hg.symm).trans (if_neg (by rw [HL.out]; omega)))
                    obtain ⟨V, ev⟩ : ∃ V, m * p10 (6 - b) = V := ⟨_, rfl⟩
                    have hVb : V ≤ 10000000000000000 := by rw [← ev]; exact scale_bd hm0 hmb (by omega)
                    have EV := Lib.hid ev
                    rw [ev] at R
                    clear hg ej hmb hnk ev h00
                    go_wp2_with fail
                    go_loopw [5, 7] (fun s5 s7 wr => ∃ (b' : Nat) (m' : Int), b' ≤ 6 ∧ s7 = .int .i64 b' ∧ s5 = .int .i64 m' ∧ 0 ≤ m' ∧ m' * p10 (6 - b') = V ∧ w = wr)
                      (fun _ s7 _ => 6 - (intOf s7).toNat)
                    case atStart => exact ⟨b, m, by omega, rfl, rfl, by omega, EV.out, rfl⟩
                    case round =>
                      obtain ⟨b', m', hb', rfl, rfl, hm', hv', rfl⟩ := hrel
                      have hle := scale_le hm' hv'
                      have b0 : (0 : Int) ≤ (b' : Int) := by omega
                      by_cases hl6 : b' < 6
                      · have e6 : decide (b' < 6) = true := by simpa using hl6
                        have HV := Lib.hid ((p10_step m' hl6).trans hv')
                        clear hv'
                        go_wp2_with fail
                        go_roundw
                        case rel => exact ⟨b' + 1, m' * 10, by omega, by go_num, rfl, by omega, HV.out, trivial⟩
                        case measure => simp [intOf]; omega
                      · obtain rfl : b' = 6 := by omega
                        have e6 : decide (6 < 6) = false := rfl
                        have HV := Lib.hid hv'
                        clear hv'
                        go_wp2_with fail
                        go_ret2
                        exact fin_some R.out HV.out
                · have e2 : decide (6 < b) = true := by simp; omega
                  have e2' : decide ((6 : Int) < (b : Int)) = true := by simp; omega
                  have R := Lib.hid ((parse_point F.out h9 HH.out hg.symm).trans (if_pos (.inr (.inl (by omega)))))
                  clear hg ej hmb hnk
                  go_wp2_with fail
                  go_ret2
                  exact fin_none R.out
          · have d9 : decide ((9 : Int) < (k : Int)) = true := by simp; omega
            have d9' : decide (9 < k) = true := by simp; omega
            have R := Lib.hid (parse_long F.out (by omega))
            clear hnk
            go_wp2_with fail
            refine (KK.out _).mono ?_
            rintro e w' ⟨rfl, rfl⟩
            go_wp2_with fail
            go_ret2
            exact fin_none R.out
        · have t46 : (byt s k == 46) = false := by simpa using h46
          have R := Lib.hid (parse_odd hf (fun e => h46 ((head_byt s k hlt).1 e)) (by rw [HL.out]; exact hlt))
          clear hf hd KD h46 hnk
          by_cases h9 : k ≤ 9
          · have d9 : decide ((9 : Int) < (k : Int)) = false := by simp; omega
            have d9' : decide (9 < k) = false := by simp; omega
            go_wp2_with fail
            refine (KK.out _).mono ?_
            rintro e w' ⟨rfl, rfl⟩
            go_wp2_with fail
            go_ret2
            exact fin_none R.out
          · have d9 : decide ((9 : Int) < (k : Int)) = true := by simp; omega
            have d9' : decide (9 < k) = true := by simp; omega
            go_wp2_with fail
            refine (KK.out _).mono ?_
            rintro e w' ⟨rfl, rfl⟩
            go_wp2_with fail
            go_ret2
            exact fin_none R.out
      · simp only [hd] at KD
        have KK := Lib.hid KD
        have hdd : 48 ≤ byt s k ∧ byt s k ≤ 57 := by unfold digB at hd; simpa using hd
        by_cases h9 : k ≤ 9
        · have d9 : decide (k ≤ 9) = true := by simpa using h9
          rw [hd, if_pos ⟨rfl, h9⟩] at hf
          have HF := Lib.hid hf
          have hx := p10_9 h9
          have hnx : 10 * n + (byt s k - 48) < p10 (k + 1) := by rw [p10_succ]; omega
          have HX := Lib.hid hnx
          have hn9 : n < 1000000000 := by omega
          clear hf hd KD hnk hnx hx
          go_wp2_with fail
          refine (KK.out _).mono ?_
          rintro e w' ⟨rfl, rfl⟩
          go_wp2_with fail
          go_roundw
          case rel => exact ⟨k + 1, _, by omega, by omega, by go_num, rfl, by omega, HX.out, HF.out, trivial⟩
          case measure => simp [intOf]; omega
        · have d9 : decide (k ≤ 9) = false := by simpa using h9
          have d9' : decide (9 < k) = true := by simp; omega
          have d9'' : decide ((9 : Int) < (k : Int)) = true := by simp; omega
          rw [if_neg (fun x => h9 x.2)] at hf
          have R := Lib.hid (parse_long hf.symm (by omega))
          clear hf hd KD hnk
          go_wp2_with fail
          refine (KK.out _).mono ?_
          rintro e w' ⟨rfl, rfl⟩
          go_wp2_with fail
          go_ret2
          exact fin_none R.out
    · have d1 : decide (k < s.size) = false := by simpa using hlt
      rw [fr_end (by omega)] at hf
      by_cases h9 : k ≤ 9
      · have d9 : decide (9 < k) = false := by simp; omega
        have d9' : decide ((9 : Int) < (k : Int)) = false := by simp; omega
        by_cases h00 : k = 0
        · have R := Lib.hid (parse_empty hf.symm (by rw [HL.out]; omega) h00)
          subst h00
          clear hf hnk
          go_wp2_with fail
          go_ret2
          exact fin_none R.out
        · have e3 : ((k : Int) == 0) = false := by simp; omega
          have e3' : ((k : Int) + 0 == 0) = false := by simp; omega
          have R := Lib.hid (parse_whole hf.symm h9 (by rw [HL.out]; omega) (by omega))
          obtain ⟨V, ev⟩ : ∃ V, n * p10 6 = V := ⟨_, rfl⟩
          have hVb : V ≤ 10000000000000000 := by rw [← ev]; exact scale_bd hn0 hnk (by omega)
          have EV := Lib.hid ev
          rw [ev] at R
          clear hf hnk ev h00
          go_wp2_with fail
          go_loopw [5, 7] (fun s5 s7 wr => ∃ (b' : Nat) (m' : Int), b' ≤ 6 ∧ s7 = .int .i64 b' ∧ s5 = .int .i64 m' ∧ 0 ≤ m' ∧ m' * p10 (6 - b') = V ∧ w = wr)
            (fun _ s7 _ => 6 - (intOf s7).toNat)
          case atStart => exact ⟨0, n, by omega, rfl, rfl, by omega, EV.out, rfl⟩
          case round =>
            obtain ⟨b', m', hb', rfl, rfl, hm', hv', rfl⟩ := hrel
            have hle := scale_le hm' hv'
            have b0 : (0 : Int) ≤ (b' : Int) := by omega
            by_cases hl6 : b' < 6
            · have e6 : decide (b' < 6) = true := by simpa using hl6
              have HV := Lib.hid ((p10_step m' hl6).trans hv')
              clear hv'
              go_wp2_with fail
              go_roundw
              case rel => exact ⟨b' + 1, m' * 10, by omega, by go_num, rfl, by omega, HV.out, trivial⟩
              case measure => simp [intOf]; omega
            · obtain rfl : b' = 6 := by omega
              have e6 : decide (6 < 6) = false := rfl
              have HV := Lib.hid hv'
              clear hv'
              go_wp2_with fail
              go_ret2
              exact fin_some R.out HV.out
      · have d9 : decide (9 < k) = true := by simp; omega
        have d9' : decide ((9 : Int) < (k : Int)) = true := by simp; omega
        have R := Lib.hid (parse_long hf.symm (by omega))
        clear hf hnk
        go_wp2_with fail
        go_ret2
        exact fin_none R.out
end Go.Proofs.YtiphekdahmiaeaaDoor

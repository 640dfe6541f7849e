/-
  cncref02.Digits, cncref16.Number; cncref17.bit, names, fields. No condition.
-/
import Derived.Test.YtefdjdipbnnoaaaDoorEnv17
import Derived.Test.YtefdjdipbnnoaaaDoorStageE17
import Derived.Test.YtefdjdipbnnoaaaDoorHeldL
import Derived.Lib.ItoaNum
namespace Go.Proofs.YtefdjdipbnnoaaaDoor
open Go Go.RowKit
set_option linter.unusedVariables false

theorem dig10 (r : Nat) (h : r < 10) : (⟨#[48, 49, 50, 51, 52, 53, 54, 55, 56, 57]⟩ : ByteArray).extract r (r + 1) = mkB [UInt8.ofNat (48 + r)] := by
  match r, h with
  | 0, _ => rfl
  | 1, _ => rfl
  | 2, _ => rfl
  | 3, _ => rfl
  | 4, _ => rfl
  | 5, _ => rfl
  | 6, _ => rfl
  | 7, _ => rfl
  | 8, _ => rfl
  | 9, _ => rfl
  | n + 10, h => exact absurd h (by omega)
def dgB (k : Nat) : UInt8 := UInt8.ofNat (48 + k % 10)
theorem dig_at (k : Nat) : (⟨#[48, 49, 50, 51, 52, 53, 54, 55, 56, 57]⟩ : ByteArray).extract (k % 10) (k % 10 + 1) = mkB [dgB k] := dig10 (k % 10) (by omega)
theorem decD_one {k : Nat} (h : k < 10) : Lib.decDigits k = [dgB k] := by rw [Lib.decDigits_one h]; unfold dgB; rw [Nat.mod_eq_of_lt h]
theorem decD_more {k : Nat} (h : ¬ k < 10) : Lib.decDigits k = Lib.decDigits (k / 10) ++ [dgB k] := by rw [Lib.decDigits, dif_neg h]; rfl
theorem decD_most {m : Nat} (h : m < 10000000000) : (Lib.decDigits m).length ≤ 11 := by
  have := itoa_most (z := (m : Int)) (k := 9) (by have : (10 : Nat) ^ (9 + 1) = 10000000000 := by decide
                                                  omega)
  unfold Lib.itoa at this
  rw [if_neg (by omega), show (m : Int).toNat = m by omega] at this
  exact this
set_option maxRecDepth 100000 in
theorem digits_any (m : Nat) (w : World) (h : m < 10000000000) : Calls Tryd.prog 61 #[.int .i64 m] w fun e w' => e = .returned (.string (mkB (Lib.decDigits m))) ∧ Below w.heap.size w w' := by
  go_enter Tryd.func61, Tryd.ntmps61
  go_wp2_with fail
  go_loopw [0, 3] (fun s0 s3 wr => ∃ (k : Nat) (S : ByteArray), s0 = .int .i64 k ∧ s3 = .string S ∧ k ≤ m ∧ Lib.decDigits k ++ bl S = Lib.decDigits m ∧ w = wr)
    (fun s0 _ _ => (intOf s0).toNat)
  case atStart => exact ⟨m, ⟨#[]⟩, rfl, rfl, Nat.le_refl _, by simp [bl], rfl⟩
  case round =>
    obtain ⟨k, S, rfl, rfl, hk, hS, rfl⟩ := hrel
    have hlen : S.size ≤ 15 := by
      have h1 := congrArg List.length hS
      rw [List.length_append, bl_len] at h1
      have h2 := decD_most h
      omega
    have i0 : (0 : Int) ≤ (k : Int) := by omega
    by_cases h9 : 9 < k
    · have d1 : decide (9 < k) = true := by simpa using h9
      have hD : Lib.decDigits (k / 10) ++ bl (mkB [dgB k] ++ S) = Lib.decDigits m := by
        rw [bl_append, bl_mkB, ← hS, ← List.append_assoc, ← decD_more (by omega)]
      have HD := Lib.hid hD
      clear hD hS
      go_wp2_with fail
      go_roundw
      case rel => exact ⟨k / 10, _, by go_num, rfl, by omega, by rw [dig_at]; exact HD.out, trivial⟩
      case measure => simp only [intOf]; omega
    · have d1 : decide (9 < k) = false := by simpa using h9
      have hD : mkB [dgB k] ++ S = mkB (Lib.decDigits m) := by
        rw [← hS, decD_one (by omega), ← mkB_bl (mkB [dgB k] ++ S), bl_append, bl_mkB]
      have e10 : k % 10 = k := Nat.mod_eq_of_lt (by omega)
      have hx := dig_at k
      rw [e10] at hx
      have HX := Lib.hid (hx ▸ hD : (⟨#[48, 49, 50, 51, 52, 53, 54, 55, 56, 57]⟩ : ByteArray).extract k (k + 1) ++ S = mkB (Lib.decDigits m))
      clear hx e10 hD hS
      go_wp2_with fail
      go_ret
      exact ⟨by rw [HX.out]; rfl, Below.refl _ _⟩
theorem rnum_any (z : Int) (h : z.natAbs < 10000000000) (w : World) : Calls Tryd.prog 45 #[.int .i64 z] w fun e w' => e = .returned (.string (mkB (Lib.itoa z))) ∧ Below w.heap.size w w' := by
  by_cases h0 : z < 0
  · obtain ⟨m, hm⟩ : ∃ m : Nat, (m : Int) = - z := ⟨z.natAbs, by omega⟩
    have d0 : decide (z < 0) = true := decide_eq_true h0
    have KD := Lib.hid (digits_any m w (by omega))
    have R : Lib.itoa z = 45 :: Lib.decDigits m := by unfold Lib.itoa; rw [if_pos h0, show z.natAbs = m by omega]
    have hl : (mkB (Lib.decDigits m)).size ≤ 20 := by rw [mkB_size]; have := decD_most (m := m) (by omega); omega
    have g1 : ¬ (⟨#[45]⟩ : ByteArray).size + (mkB (Lib.decDigits m)).size > 9223372036854775807 := by
      rw [show (⟨#[45]⟩ : ByteArray).size = 1 from rfl]; omega
    have hw : IntKind.i64.wrap (m : Int) = m := by rw [IntKind.wrap_i64]; omega
    have R := Lib.hid R
    obtain rfl : z = - (m : Int) := by omega
    clear hm
    go_enter Tryd.func45, Tryd.ntmps45
    go_wp2_with fail
    refine KD.out.mono ?_
    rintro e w1 ⟨rfl, b1⟩
    go_wp2_with fail
    go_ret
    exact ⟨by rw [R.out]; rfl, b1⟩
  · obtain ⟨m, rfl⟩ := Int.eq_ofNat_of_zero_le (show 0 ≤ z by omega)
    have R : Lib.itoa (m : Int) = Lib.decDigits m := by unfold Lib.itoa; rw [if_neg h0, show (m : Int).toNat = m by omega]
    have d0 : decide ((m : Int) < 0) = false := decide_eq_false h0
    have KD := Lib.hid (digits_any m w (by omega))
    have R := Lib.hid R
    go_enter Tryd.func45, Tryd.ntmps45
    go_wp2_with fail
    refine KD.out.mono ?_
    rintro e w1 ⟨rfl, b1⟩
    go_wp2_with fail
    go_ret
    exact ⟨by rw [R.out]; rfl, b1⟩
theorem bit_any (b : Bool) (w : World) : Calls Tryd.prog 60 #[.bool b] w fun e w' => e = .returned (.int .i64 (b2i b)) ∧ w = w' := by
  cases b
  all_goals
    go_enter Tryd.func60, Tryd.ntmps60
    go_wp2_with fail
    go_ret
    exact ⟨rfl, rfl⟩
set_option maxRecDepth 100000 in
theorem names_any (w : World) : Calls Tryd.prog 43 #[] w fun e w' => e = .returned (.slice (some ⟨w.heap.size, 0, none⟩) 15 15) ∧ Blk w' w.heap.size 9 namesC ∧ Below w.heap.size w w' := by
  go_enter Tryd.func43, Tryd.ntmps43
  go_wp2_with fail
  go_ret
  exact ⟨rfl, Blk.new w _ _, (Below.refl _ _).alloc (Nat.le_refl _) _⟩
end Go.Proofs.YtefdjdipbnnoaaaDoor

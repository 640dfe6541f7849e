/-
  cncref02.Digits, Format at numbers from 0 to 10^15 - 1.
-/
import Derived.Test.YtiphekdahmiaeaaDoorNum05
import Derived.Test.YtiphekdahmiaeaaDoorLTok05
namespace Go.Proofs.YtiphekdahmiaeaaDoor
open Go Go.RowKit
set_option linter.unusedVariables false
attribute [local go_sem ↓] ix_run

theorem valid_true (n : Int) (w : World) (h : 0 ≤ n) (h1 : n < 1000000000000000) : Calls Tryd.prog 35 #[.int .i64 n] w fun e w' => e = .returned (.bool true) ∧ w = w' := by
  have d1 : decide (-1000000000000000 ≤ n) = true := by simp; omega
  have d2 : decide (n ≤ 1000000000000000) = true := by simp; omega
  go_enter Tryd.func35, Tryd.ntmps35
  go_wp2_with fail
  go_ret
  exact ⟨rfl, rfl⟩
theorem dig10 (r : Nat) (h : r < 10) : (⟨#[48, 49, 50, 51, 52, 53, 54, 55, 56, 57]⟩ : ByteArray).extract r (r + 1) = mkB [UInt8.ofNat (48 + r)] := by
  match r, h with
  | 0, _ => rfl
  | 1, _ => rfl
  | 2, _ => rfl
  | 3, _ => rfl
  | 4, _ => rfl
  | 5, _ => rfl
  | 6, _ => rfl
  | 7, _ => rfl
  | 8, _ => rfl
  | 9, _ => rfl
  | n + 10, h => exact absurd h (by omega)
theorem dig_at (k : Nat) : (⟨#[48, 49, 50, 51, 52, 53, 54, 55, 56, 57]⟩ : ByteArray).extract (k % 10) (k % 10 + 1) = mkB [dgB k] := dig10 (k % 10) (by omega)
set_option maxRecDepth 100000 in
theorem digits_any (m : Nat) (w : World) (h : m < 1000000000000000) : Calls Tryd.prog 36 #[.int .i64 m] w fun e w' => e = .returned (.string (mkB (decL m))) ∧ Below w.heap.size w w' := by
  go_enter Tryd.func36, Tryd.ntmps36
  go_wp2_with fail
  go_loopw [0, 3] (fun s0 s3 wr => ∃ (k : Nat) (S : ByteArray), s0 = .int .i64 k ∧ s3 = .string S ∧ k ≤ m ∧ decL k ++ bl S = decL m ∧ w = wr)
    (fun s0 _ _ => (intOf s0).toNat)
  case atStart => exact ⟨m, ⟨#[]⟩, rfl, rfl, Nat.le_refl _, by simp [bl], rfl⟩
  case round =>
    obtain ⟨k, S, rfl, rfl, hk, hS, rfl⟩ := hrel
    have hlen : (decL k).length + S.size ≤ 15 := by
      have h1 := congrArg List.length hS
      rw [List.length_append, bl_len] at h1
      have h2 := decL_most 14 m (by omega)
      omega
    have i0 : (0 : Int) ≤ (k : Int) := by omega
    have hL1 := decL_len k
    by_cases h9 : 9 < k
    · have d1 : decide (9 < k) = true := by simpa using h9
      have hD : decL (k / 10) ++ bl (mkB [dgB k] ++ S) = decL m := by
        rw [bl_append, bl_mkB, ← hS, ← List.append_assoc]
        conv => rhs; rw [decL, if_neg (by omega)]
      have HD := Lib.hid hD
      go_wp2_with fail
      go_roundw
      case rel => exact ⟨k / 10, _, by go_num, rfl, by omega, by rw [dig_at]; exact HD.out, trivial⟩
      case measure => simp only [intOf]; omega
    · have d1 : decide (9 < k) = false := by simpa using h9
      have hD : mkB [dgB k] ++ S = mkB (decL m) := by
        rw [← hS, decL, if_pos (by omega), ← mkB_bl (mkB [dgB k] ++ S), bl_append, bl_mkB]
      have e10 : k % 10 = k := Nat.mod_eq_of_lt (by omega)
      have hx := dig_at k
      rw [e10] at hx
      have HX := Lib.hid (hx ▸ hD : (⟨#[48, 49, 50, 51, 52, 53, 54, 55, 56, 57]⟩ : ByteArray).extract k (k + 1) ++ S = mkB (decL m))
      clear hx e10 hD hS
      go_wp2_with fail
      go_ret
      exact ⟨by rw [HX.out]; rfl, Below.refl _ _⟩
structure Good (q : Nat) (T : ByteArray) : Prop where
  dig : ∀ c ∈ bl T, dgt c = true
  ge : 1 ≤ T.size
  le : T.size ≤ 6
  val : valL (bl T) 0 * p10 (6 - T.size) = (q : Int)
theorem Good.strip {q : Nat} {T : ByteArray} (h : Good q T) (hq : q ≠ 0) (h48 : byt T (T.size - 1) = 48) : Good q (T.extract 0 (T.size - 1)) := by
  have h1 := h.ge
  have h6 := h.le
  have hb : bl (T.extract 0 (T.size - 1)) = (bl T).take (T.size - 1) := by rw [bl_extract, List.drop_zero, Nat.sub_zero]
  obtain ⟨c, e1, e2⟩ := drop_byt T (T.size - 1) (by omega)
  rw [show T.size - 1 + 1 = T.size by omega, List.drop_eq_nil_of_le (i := T.size) (by rw [bl_len]; omega)] at e1
  have hT : bl T = (bl T).take (T.size - 1) ++ [c] := by rw [← e1, List.take_append_drop]
  have hc : (c.toNat : Int) = 48 := by rw [← e2, h48]
  have hs : (T.extract 0 (T.size - 1)).size = T.size - 1 := by rw [← bl_len, hb, List.length_take, bl_len]; omega
  have hv := h.val
  rw [hT, valL_append] at hv
  simp only [valL] at hv
  rw [hc, show 6 - T.size = 6 - T.size from rfl] at hv
  have hv2 : valL ((bl T).take (T.size - 1)) 0 * p10 (6 - (T.size - 1)) = (q : Int) := by
    rw [show 6 - (T.size - 1) = 6 - T.size + 1 by omega, p10_succ, ← Int.mul_assoc, Int.mul_comm _ 10, ← hv]
    congr 1
    omega
  refine ⟨fun d hd => h.dig d ?_, ?_, by omega, by rw [hb, hs]; exact hv2⟩
  · rw [hb] at hd
    exact List.mem_of_mem_take hd
  · rw [hs]
    by_cases e : T.size - 1 = 0
    · rw [e] at hv2
      simp [valL] at hv2
      omega
    · omega
theorem good_first {q : Nat} (h : q < 1000000) : (mkB (decL (1000000 + q))).size = 7 ∧ Good q ((mkB (decL (1000000 + q))).extract 1 7) := by
  have h1 := decL_most 6 (1000000 + q) (by omega)
  have h2 := decL_least 6 (1000000 + q) (by omega)
  have hd := decL_dgt (1000000 + q)
  have hv := decL_val (1000000 + q)
  have hs : (mkB (decL (1000000 + q))).size = 7 := by rw [← bl_len, bl_mkB]; omega
  have hb : bl ((mkB (decL (1000000 + q))).extract 1 7) = (decL (1000000 + q)).drop 1 := by
    rw [bl_extract, bl_mkB, List.take_of_length_le (by rw [List.length_drop]; omega)]
  have hs2 : ((mkB (decL (1000000 + q))).extract 1 7).size = 6 := by rw [← bl_len, hb, List.length_drop]; omega
  refine ⟨hs, ?_, by omega, by omega, ?_⟩
  · intro c hc
    rw [hb] at hc
    exact hd c (List.mem_of_mem_drop hc)
  · rw [hb, hs2, Nat.sub_self]
    generalize decL (1000000 + q) = L at *
    match L, h1, h2 with
    | c :: E, h1, h2 =>
      have hc := hd c List.mem_cons_self
      unfold dgt digB at hc
      have hc := of_decide_eq_true hc
      have he := valL_bd E fun d hd' => hd d (List.mem_cons_of_mem _ hd')
      rw [valL, valL_lin] at hv
      have hl : E.length = 6 := by simp at h1 h2; omega
      rw [hl] at hv he
      have e6 : p10 6 = 1000000 := by unfold p10; decide
      have e0 : p10 0 = 1 := rfl
      rw [e6] at hv he
      show valL E 0 * p10 0 = _
      rw [e0]
      omega
set_option maxRecDepth 100000 in
theorem format_any (m : Nat) (w : World) (h : m < 1000000000000000) : Calls Tryd.prog 24 #[.int .i64 m] w fun e w' => (∃ B, e = .returned (.string B) ∧ Form m (bl B)) ∧ Below w.heap.size w w' := by
  have KV := Lib.hid (valid_true m w (by omega) (by omega))
  have KD := digits_any (m / 1000000) w (by omega)
  rw [show ((m / 1000000 : Nat) : Int) = (m : Int) / 1000000 by omega] at KD
  have KD := Lib.hid KD
  have i0 : (0 : Int) ≤ (m : Int) := by omega
  have d1 : decide ((m : Int) < 0) = false := by simp
  by_cases h0 : m % 1000000 = 0
  · have z : ((m : Int) % 1000000 == 0) = true := by simp; omega
    have HF := Lib.hid (form_whole (m := m) (by omega) h0)
    go_enter Tryd.func24, Tryd.ntmps24
    go_wp2_with fail
    refine KV.out.mono ?_
    rintro e w' ⟨rfl, rfl⟩
    go_wp2_with fail
    refine KD.out.mono ?_
    rintro e w1 ⟨rfl, b1⟩
    go_wp2_with fail
    go_ret
    exact ⟨⟨_, rfl, by rw [bl_mkB]; exact HF.out⟩, b1⟩
  · have z : ((m : Int) % 1000000 == 0) = false := by simp; omega
    obtain ⟨g1, g2⟩ := good_first (q := m % 1000000) (by omega)
    have KE := fun W => digits_any (1000000 + m % 1000000) W (by omega)
    rw [show ((1000000 + m % 1000000 : Nat) : Int) = 1000000 + (m : Int) % 1000000 by omega] at KE
    generalize mkB (decL (1000000 + m % 1000000)) = BB at *
    have KE := Lib.hid KE
    have G2 := Lib.hid g2
    clear g2
    go_enter Tryd.func24, Tryd.ntmps24
    go_wp2_with fail
    refine KV.out.mono ?_
    rintro e w' ⟨rfl, rfl⟩
    go_wp2_with fail
    refine KD.out.mono ?_
    rintro e w1 ⟨rfl, b1⟩
    go_wp2_with fail
    refine (KE.out _).mono ?_
    rintro e w2 ⟨rfl, b2'⟩
    have b2 := b1.trans (b2'.mono b1.size)
    clear KV KD KE b1 b2'
    have HW := Lib.hid (show m / 1000000 < 10 ^ 9 by omega)
    go_wp2_with fail
    go_loopw [5] (fun s5 wr => ∃ T : ByteArray, s5 = .string T ∧ Good (m % 1000000) T ∧ w2 = wr) (fun s5 _ => match s5 with | .string T => T.size | _ => 0)
    case atStart => exact ⟨_, rfl, G2.out, rfl⟩
    case round =>
      obtain ⟨T, rfl, hG, rfl⟩ := hrel
      have hge := hG.ge
      have hle := hG.le
      obtain ⟨n, hn⟩ : ∃ n, T.size = n + 1 := ⟨T.size - 1, by omega⟩
      have HG := Lib.hid hG
      have i1 : (n : Int) + 1 - 1 = (n : Int) := by omega
      have i2 : (0 : Int) ≤ (n : Int) := by omega
      have i3 : (n : Int) < (T.size : Int) := by omega
      have i4 : (n : Int) ≤ (T.size : Int) := by omega
      by_cases h48 : byt T n = 48
      · have hS := Lib.hid (hG.strip h0 (by rw [hn]; exact h48))
        have t48 := eqB h48
        clear h48 hG
        go_wp2_with fail
        go_roundw
        case rel => exact ⟨_, rfl, by have := hS.out; rw [hn, Nat.add_sub_cancel] at this; exact this, trivial⟩
        case measure => simp only [ByteArray.size_extract]; omega
      · have t48 := neB h48
        have HF := form_part (m := m) HW.out hG.dig hge hle hG.val
        rw [← bl_mkB (decL (m / 1000000)), ← show bl ⟨#[46]⟩ = [46] from rfl, ← bl_append, ← bl_append] at HF
        have hds : (mkB (decL (m / 1000000))).size ≤ 9 := by
          rw [← bl_len, bl_mkB]
          exact decL_most 8 _ HW.out
        have s46 : (⟨#[46]⟩ : ByteArray).size = 1 := rfl
        have HF := Lib.hid HF
        generalize mkB (decL (m / 1000000)) = DD at *
        have hg1 : ¬ DD.size + (⟨#[46]⟩ : ByteArray).size > 9223372036854775807 := by omega
        have hg2 : ¬ (DD ++ ⟨#[46]⟩).size + T.size > 9223372036854775807 := by rw [size_app]; omega
        clear h48 hG s46
        go_wp2_with fail
        go_ret
        exact ⟨⟨_, rfl, HF.out⟩, b2⟩
end Go.Proofs.YtiphekdahmiaeaaDoor

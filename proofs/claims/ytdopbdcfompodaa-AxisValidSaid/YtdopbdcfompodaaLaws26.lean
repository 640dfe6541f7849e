/-
  What the functions of the packages axis, cncref26 and cnclaw26 leave.
-/
import Derived.Test.YtdopbdcfompodaaAxes
namespace Go.Proofs.Ytdopbdcfompodaa
open Go Go.RowKit
set_option linter.unusedVariables false

def axc (st sp ac je lo hi ba og sg : Int) (pa : Option Addr) (pn pc : Nat) : Array Value := #[.int .i64 st, .int .i64 sp, .int .i64 ac, .int .i64 je, .int .i64 lo, .int .i64 hi, .int .i64 ba, .int .i64 og, .int .i64 sg, .slice pa pn pc]
def nearB (n : Int) : Bool := decide (-67108864 ≤ n ∧ n ≤ 67108864)
/-- The motor position that is nearest. -/
def stepOf (s q : Int) : Int := (2 * q + s) / (2 * s)
theorem floor_t (n d : Int) (hd : 0 < d) : (n.tmod d < 0 → n.tdiv d - 1 = n / d) ∧ (¬ n.tmod d < 0 → n.tdiv d = n / d) := by
  have h1 := Int.emod_lt_of_pos n hd
  have h2 := Int.emod_nonneg n (show d ≠ 0 by omega)
  have hs : d.sign = 1 := Int.sign_eq_one_of_pos hd
  rw [Int.tdiv_eq_ediv, Int.tmod_eq_emod, hs]
  by_cases h : 0 ≤ n ∨ d ∣ n
  · simp only [h, if_true]; omega
  · simp only [h, if_false]; omega
theorem stepOf_bd (s q : Int) (hs : 4 ≤ s ∧ s ≤ 64) (hq : -134217728 ≤ q ∧ q ≤ 134217728) : -134217728 ≤ stepOf s q ∧ stepOf s q ≤ 134217728 := by
  unfold stepOf
  refine ⟨Int.le_ediv_of_mul_le (by omega) ?_, Int.ediv_le_of_le_mul (by omega) ?_⟩ <;> omega

theorem tdiv_bd (n d : Int) (hd : 1 ≤ d) (hn : -1099511627776 ≤ n ∧ n ≤ 1099511627776) : -1099511627776 ≤ n.tdiv d ∧ n.tdiv d ≤ 1099511627777 := by
  obtain ⟨h1, h2⟩ := floor_t n d (by omega)
  have h3 : -1099511627776 ≤ n / d ∧ n / d ≤ 1099511627776 := ⟨Int.le_ediv_of_mul_le (by omega) (by omega), Int.ediv_le_of_le_mul (by omega) (by omega)⟩
  by_cases h : n.tmod d < 0
  · have := h1 h; omega
  · have := h2 h; omega
theorem steps_any (st sp ac je lo hi ba og sg : Int) (pa : Option Addr) (pn pc : Nat) (q : Int) (w : World) (hs : 4 ≤ st ∧ st ≤ 64) (hq : -134217728 ≤ q ∧ q ≤ 134217728) :
    Calls Try.prog 11 #[.agg (axc st sp ac je lo hi ba og sg pa pn pc), .int .i64 q] w fun e w' => e = .returned (.int .i64 (stepOf st q)) ∧ ∃ k, w' = (w.alloc (.cells (axc st sp ac je lo hi ba og sg pa pn pc) 25)).drewN k := by
  have hf := floor_t (2 * q + st) (2 * st) (by omega)
  have ht := tmod_bd (2 * q + st) (2 * st) (by omega)
  have hd := tdiv_bd (2 * q + st) (2 * st) (by omega) (by omega)
  obtain ⟨s1, s2⟩ := hs
  obtain ⟨q1, q2⟩ := hq
  obtain ⟨d1, d2⟩ := hd
  have HF := Lib.hid hf
  clear hf
  unfold axc
  go_enter Try.func11, Try.ntmps11
  go_wp2_with fail
  go_quiet (fail)
  go_wp2
  · have hm : (2 * q + st).tmod (2 * st) < 0 := by assumption
    go_ret
    exact ⟨ret_int (by unfold stepOf; exact HF.out.1 hm), _, rfl⟩
  · have hm : ¬ (2 * q + st).tmod (2 * st) < 0 := by omega
    go_ret
    exact ⟨ret_int (by unfold stepOf; exact HF.out.2 (by omega)), _, rfl⟩

theorem rfloor_any (n d : Int) (w : World) (hd : 1 ≤ d) (hn : -1099511627776 ≤ n ∧ n ≤ 1099511627776) :
    Calls Try.prog 19 #[.int .i64 n, .int .i64 d] w fun e w' => e = .returned (.int .i64 (n / d)) ∧ w = w' := by
  have hf := floor_t n d (by omega)
  have ht := tmod_bd n d hd
  have hdd := tdiv_bd n d hd hn
  obtain ⟨d1, d2⟩ := hdd
  have HF := Lib.hid hf
  clear hf
  go_enter Try.func19, Try.ntmps19
  go_wp2
  · have hm : n.tmod d < 0 := by assumption
    go_ret
    exact ⟨ret_int (HF.out.1 hm), rfl⟩
  · have hm : ¬ n.tmod d < 0 := by omega
    go_ret
    exact ⟨ret_int (HF.out.2 (by omega)), rfl⟩

theorem rsteps_any (st sp ac je lo hi ba og sg : Int) (pa : Option Addr) (pn pc : Nat) (q : Int) (w : World) (hs : 4 ≤ st ∧ st ≤ 64) (hq : -134217728 ≤ q ∧ q ≤ 134217728) :
    Calls Try.prog 12 #[.agg (axc st sp ac je lo hi ba og sg pa pn pc), .int .i64 q] w fun e w' => e = .returned (.int .i64 (stepOf st q)) ∧ ∃ k, w' = (w.alloc (.cells (axc st sp ac je lo hi ba og sg pa pn pc) 25)).drewN k := by
  obtain ⟨s1, s2⟩ := hs
  obtain ⟨q1, q2⟩ := hq
  unfold axc
  go_enter Try.func12, Try.ntmps12
  go_wp2_with (go_at_call 19; refine (rfloor_any _ _ _ (by omega) (by omega)).mono ?_; rintro e w' ⟨rfl, rfl⟩)
  go_ret
  exact ⟨ret_int rfl, 0, rfl⟩

theorem near_any (n : Int) (w : World) : Calls Try.prog 10 #[.int .i64 n] w fun e w' => e = .returned (.bool (nearB n)) ∧ w = w' := by
  by_cases h1 : -67108864 ≤ n
  · by_cases h2 : n ≤ 67108864
    · go_enter Try.func10, Try.ntmps10
      go_wp2
      go_ret
      exact ⟨ret_bool (by unfold nearB; simp [h1, h2]), rfl⟩
    · go_enter Try.func10, Try.ntmps10
      go_wp2
      go_ret
      exact ⟨ret_bool (by unfold nearB; exact (decide_eq_false (by omega)).symm), rfl⟩
  · go_enter Try.func10, Try.ntmps10
    go_wp2
    go_ret
    exact ⟨ret_bool (by unfold nearB; exact (decide_eq_false (by omega)).symm), rfl⟩

theorem awake_true (w : World) : Calls Try.prog 8 #[] w fun e w' => e = .returned (.bool true) ∧ Below w.heap.size w w' := by
  have s1 := fun W => steps_any 16 0 0 0 0 0 0 0 0 none 0 0 8 W (by omega) (by omega)
  have s2 := fun W => steps_any 16 0 0 0 0 0 0 0 0 none 0 0 (-8) W (by omega) (by omega)
  have s3 := fun W => steps_any 16 0 0 0 0 0 0 0 0 none 0 0 (-9) W (by omega) (by omega)
  have v1 : stepOf 16 8 = 1 := by decide
  have v2 : stepOf 16 (-8) = 0 := by decide
  have v3 : stepOf 16 (-9) = -1 := by decide
  rw [v1] at s1
  rw [v2] at s2
  rw [v3] at s3
  have S1 := Lib.hid s1
  have S2 := Lib.hid s2
  have S3 := Lib.hid s3
  clear s1 s2 s3 v1 v2 v3
  go_enter Try.func8, Try.ntmps8
  go_wp2_with fail
  refine (S1.out _).mono ?_
  rintro e w' ⟨rfl, k1, rfl⟩
  dsimp only [axc]
  go_wp2_with fail
  refine (S2.out _).mono ?_
  rintro e w' ⟨rfl, k2, rfl⟩
  dsimp only [axc]
  go_wp2_with fail
  refine (S3.out _).mono ?_
  rintro e w' ⟨rfl, k3, rfl⟩
  dsimp only [axc]
  go_wp2_with fail
  go_ret
  exact ⟨rfl, by repeat (first | exact Below.refl _ _ | (refine below_drewN ?_ _) | (refine Below.alloc ?_ (by simp; try omega) _) | refine Below.drew ?_)⟩

theorem axis0 (v1 v2 v3 : AxisV) (W : World) : (Instr.index 26 (.agg (v1.cells ++ v2.cells ++ v3.cells)) (.int .i64 0)).run Try.prog W = .ok (.agg v1.cells) W := by kernel_rfl

end Go.Proofs.Ytdopbdcfompodaa

/-
  cncref15.Rings, cncref09.SameInts, cncmake.Between and the small functions of pocket and cncref15.
-/
import Derived.Test.YtnbfhdapdlpgiaaRng15
import Derived.Test.YtnbfhdapdlpgiaaRowsInt
import Derived.Test.YtnbfhdapdlpgiaaHeld
import Derived.Test.YtnbfhdapdlpgiaaArgs
import Derived.Test.YtnbfhdapdlpgiaaBuild
namespace Go.Proofs.Ytnbfhdapdlpgiaa
open Go Go.RowKit
set_option linter.unusedVariables false

theorem tmod_bd (v n : Int) (h : 1 ≤ n) : -n < v.tmod n ∧ v.tmod n < n := by
  have h0 := Int.emod_nonneg v (show n ≠ 0 by omega)
  have h1 := Int.emod_lt_of_pos v (show 0 < n by omega)
  rw [Int.tmod_eq_emod]
  split <;> omega
theorem tmod_emod (v n : Int) (h : 1 ≤ n) : (v.tmod n < 0 → v.tmod n + n = v % n) ∧ (¬ v.tmod n < 0 → v.tmod n = v % n) := by
  have h0 := Int.emod_nonneg v (show n ≠ 0 by omega)
  have h1 := Int.emod_lt_of_pos v (show 0 < n by omega)
  rw [Int.tmod_eq_emod]
  split <;> omega

theorem mod_any (v n : Int) (w : World) (h : 1 ≤ n) (hn : n ≤ 1099511627776) :
    Calls Try.prog 21 #[.int .i64 v, .int .i64 n] w fun e w' => e = .returned (.int .i64 (v % n)) ∧ w = w' := by
  obtain ⟨h3, h4⟩ := tmod_emod v n h
  obtain ⟨h1, h2⟩ := tmod_bd v n h
  have d0 : (n == 0) = false := by simp; omega
  by_cases hr : v.tmod n < 0
  · have H := Lib.hid (h3 hr)
    clear h3 h4
    go_enter Try.func21, Try.ntmps21
    go_wp2
    go_ret
    exact ⟨ret_int H.out, rfl⟩
  · have H := Lib.hid (h4 hr)
    clear h3 h4
    go_enter Try.func21, Try.ntmps21
    go_wp2
    go_ret
    exact ⟨ret_int H.out, rfl⟩

theorem between_any (v lo hi : Int) (w : World) (h : lo ≤ hi) (h1 : -1099511627776 ≤ lo) (h2 : hi ≤ 549755813888) (h3 : hi - lo ≤ 1099511627775) :
    Calls Try.prog 10 #[.int .i64 v, .int .i64 lo, .int .i64 hi] w fun e w' => e = .returned (.int .i64 (lo + v % (hi - lo + 1))) ∧ w = w' := by
  have hm := fun W => mod_any v (hi - lo + 1) W (by omega) (by omega)
  have hr1 := Int.emod_nonneg v (show hi - lo + 1 ≠ 0 by omega)
  have hr2 := Int.emod_lt_of_pos v (show 0 < hi - lo + 1 by omega)
  generalize v % (hi - lo + 1) = r at *
  have HM := Lib.hid hm
  clear hm
  go_enter Try.func10, Try.ntmps10
  go_wp2_with (go_at_call 21; refine (HM.out _).mono ?_; rintro e w' ⟨rfl, rfl⟩)
  go_ret
  exact ⟨rfl, rfl⟩
theorem between_bd (v lo hi : Int) (h : lo ≤ hi) : lo ≤ lo + v % (hi - lo + 1) ∧ lo + v % (hi - lo + 1) ≤ hi := by
  have hr1 := Int.emod_nonneg v (show hi - lo + 1 ≠ 0 by omega)
  have hr2 := Int.emod_lt_of_pos v (show 0 < hi - lo + 1 by omega)
  omega

theorem many_any (size step : Int) (w : World) (h1 : 1 ≤ size) (h1' : size ≤ 9223372036854775807) (h2 : 1 ≤ step) :
    Calls Try.prog 25 #[.int .i64 size, .int .i64 step] w fun e w' => e = .returned (.bool (decide (1000 < rgN size step))) ∧ w = w' := by
  have hq : (size - 1).tdiv step = (size - 1) / step := Int.tdiv_eq_ediv_of_nonneg (by omega)
  have hb0 := Int.ediv_nonneg (show 0 ≤ size - 1 by omega) (show 0 ≤ step by omega)
  have hb1 := Int.ediv_le_self step (show 0 ≤ size - 1 by omega)
  have hc := rgN_cast h1 h2
  have d0 : (step == 0) = false := by simp; omega
  have e1 : (1000 < rgN size step) = ((1000 : Int) < (size - 1) / step + 1) := by simp only [eq_iff_iff]; omega
  simp only [e1]
  clear hc e1
  generalize (size - 1) / step = q at *
  go_enter Try.func25, Try.ntmps25
  go_wp2
  go_ret
  exact ⟨rfl, rfl⟩

theorem in_yes (n : Int) (w : World) (h1 : -1048576 ≤ n) (h2 : n ≤ 1048576) : Calls Try.prog 28 #[.int .i64 n, .int .i64 1048576] w fun e w' => e = .returned (.bool true) ∧ w = w' := by
  go_enter Try.func28, Try.ntmps28
  go_wp2
  go_ret
  exact ⟨rfl, rfl⟩
theorem in_no (n : Int) (w : World) (h : ¬ (-1048576 ≤ n ∧ n ≤ 1048576)) : Calls Try.prog 28 #[.int .i64 n, .int .i64 1048576] w fun e w' => e = .returned (.bool false) ∧ w = w' := by
  have : n < -1048576 ∨ (-1048576 ≤ n ∧ 1048576 < n) := by omega
  rcases this with h1 | ⟨h1, h2⟩
  all_goals
    go_enter Try.func28, Try.ntmps28
    go_wp2
    go_ret
    exact ⟨ret_bool (by first | rfl | (simp; omega)), rfl⟩
theorem coordinate_yes (n : Int) (w : World) (h1 : -1048576 ≤ n) (h2 : n ≤ 1048576) : Calls Try.prog 26 #[.int .i64 n] w fun e w' => e = .returned (.bool true) ∧ w = w' := by
  go_enter Try.func26, Try.ntmps26
  go_wp2
  go_ret
  exact ⟨rfl, rfl⟩
theorem coordinate_no (n : Int) (w : World) (h : ¬ (-1048576 ≤ n ∧ n ≤ 1048576)) : Calls Try.prog 26 #[.int .i64 n] w fun e w' => e = .returned (.bool false) ∧ w = w' := by
  have : n < -1048576 ∨ (-1048576 ≤ n ∧ 1048576 < n) := by omega
  rcases this with h1 | ⟨h1, h2⟩
  all_goals
    go_enter Try.func26, Try.ntmps26
    go_wp2
    go_ret
    exact ⟨ret_bool (by first | rfl | (simp; omega)), rfl⟩

/-- A straight motion's cells. -/
def lineL (u w : Int) : List Value := [.int .i64 2, .int .i64 0, .int .i64 0, .int .i64 0, .int .i64 0, .int .i64 u, .int .i64 w, .int .i64 0, .int .i64 0, .int .i64 0, .int .i64 0, .int .i64 0, .int .i64 0, .bool false, .int .i64 0, .bool false, .int .i64 0, .int .i64 0, .int .i64 0, .int .i64 0, .int .i64 0, .bool false]
/-- A full turn's cells. -/
def turnL (u w cu cw : Int) : List Value := [.int .i64 3, .int .i64 0, .int .i64 0, .int .i64 0, .int .i64 0, .int .i64 u, .int .i64 w, .int .i64 0, .int .i64 0, .int .i64 cu, .int .i64 cw, .int .i64 0, .int .i64 1, .bool true, .int .i64 0, .bool false, .int .i64 0, .int .i64 0, .int .i64 0, .int .i64 0, .int .i64 0, .bool false]
theorem line_one (u v : Int) : (lineL u v).toArray.all (·.oneCell') = true := by simp [lineL, Value.oneCell']
theorem turn_one (u v cu cv : Int) : (turnL u v cu cv).toArray.all (·.oneCell') = true := by simp [turnL, Value.oneCell']
theorem pline_any (u v : Int) (w : World) : Calls Try.prog 27 #[.int .i64 u, .int .i64 v] w fun e w' => e = .returned (.agg (lineL u v).toArray) ∧ Below w.heap.size w w' := by
  have hb := Blk.new w 40 #[.int .i64 0, .int .i64 0, .int .i64 0, .int .i64 0, .int .i64 0, .int .i64 0, .int .i64 0, .int .i64 0, .int .i64 0, .int .i64 0, .int .i64 0, .int .i64 0, .int .i64 0, .bool false, .int .i64 0, .bool false, .int .i64 0, .int .i64 0, .int .i64 0, .int .i64 0, .int .i64 0, .bool false]
  have fin : ∀ z, Blk ((w.alloc (.cells z 40)).setRow w.heap.size (lineL u v).toArray) w.heap.size 40 (lineL u v).toArray := fun z => (Blk.new w _ _).setRow _
  have belf : ∀ z, Below w.heap.size w ((w.alloc (.cells z 40)).setRow w.heap.size (lineL u v).toArray) := fun z => below_row ((Below.refl _ _).alloc (Nat.le_refl _) _) (Nat.le_refl _) _
  go_enter Try.func27, Try.ntmps27
  go_wp2_with (first
    | (refine wpList_built rfl 38 _ rfl #[.int .i64 u, .int .i64 v, .int .i64 0] (by kernel_rfl) ?_)
    | (refine wpList_built rfl 40 _ rfl (lineL u v).toArray (by kernel_rfl) ?_)
    | (refine wpList_store_row rfl 40 (.tmp 4) (.tmp 8) rfl w.heap.size (lineL u v).toArray rfl rfl 40 #[.int .i64 0, .int .i64 0, .int .i64 0, .int .i64 0, .int .i64 0, .int .i64 0, .int .i64 0, .int .i64 0, .int .i64 0, .int .i64 0, .int .i64 0, .int .i64 0, .int .i64 0, .bool false, .int .i64 0, .bool false, .int .i64 0, .int .i64 0, .int .i64 0, .int .i64 0, .int .i64 0, .bool false] hb (by kernel_rfl) rfl (line_one u v) ?_; refine on_told (fun w' => Blk w' w.heap.size 40 (lineL u v).toArray ∧ Below w.heap.size w w') ⟨fin _, belf _⟩ ?_; rintro wz ⟨bz, lz⟩))
  refine bodyPost_ret (results_cell_row rfl _ _ w.heap.size 40 (lineL u v).toArray (0, 0) _ rfl bz Try.underlying40 rfl (by kernel_rfl)) rfl ?_
  exact ⟨rfl, lz⟩
theorem rline_any (u v : Int) (w : World) : Calls Try.prog 29 #[.int .i64 u, .int .i64 v] w fun e w' => e = .returned (.agg (lineL u v).toArray) ∧ Below w.heap.size w w' := by
  have hb := Blk.new w 40 #[.int .i64 0, .int .i64 0, .int .i64 0, .int .i64 0, .int .i64 0, .int .i64 0, .int .i64 0, .int .i64 0, .int .i64 0, .int .i64 0, .int .i64 0, .int .i64 0, .int .i64 0, .bool false, .int .i64 0, .bool false, .int .i64 0, .int .i64 0, .int .i64 0, .int .i64 0, .int .i64 0, .bool false]
  have fin : ∀ z, Blk ((w.alloc (.cells z 40)).setRow w.heap.size (lineL u v).toArray) w.heap.size 40 (lineL u v).toArray := fun z => (Blk.new w _ _).setRow _
  have belf : ∀ z, Below w.heap.size w ((w.alloc (.cells z 40)).setRow w.heap.size (lineL u v).toArray) := fun z => below_row ((Below.refl _ _).alloc (Nat.le_refl _) _) (Nat.le_refl _) _
  go_enter Try.func29, Try.ntmps29
  go_wp2_with (first
    | (refine wpList_built rfl 38 _ rfl #[.int .i64 u, .int .i64 v, .int .i64 0] (by kernel_rfl) ?_)
    | (refine wpList_built rfl 40 _ rfl (lineL u v).toArray (by kernel_rfl) ?_)
    | (refine wpList_store_row rfl 40 (.tmp 4) (.tmp 8) rfl w.heap.size (lineL u v).toArray rfl rfl 40 #[.int .i64 0, .int .i64 0, .int .i64 0, .int .i64 0, .int .i64 0, .int .i64 0, .int .i64 0, .int .i64 0, .int .i64 0, .int .i64 0, .int .i64 0, .int .i64 0, .int .i64 0, .bool false, .int .i64 0, .bool false, .int .i64 0, .int .i64 0, .int .i64 0, .int .i64 0, .int .i64 0, .bool false] hb (by kernel_rfl) rfl (line_one u v) ?_; refine on_told (fun w' => Blk w' w.heap.size 40 (lineL u v).toArray ∧ Below w.heap.size w w') ⟨fin _, belf _⟩ ?_; rintro wz ⟨bz, lz⟩))
  refine bodyPost_ret (results_cell_row rfl _ _ w.heap.size 40 (lineL u v).toArray (0, 0) _ rfl bz Try.underlying40 rfl (by kernel_rfl)) rfl ?_
  exact ⟨rfl, lz⟩

set_option maxRecDepth 100000 in
set_option maxHeartbeats 1000000 in
/-- cncref09.SameInts of two rows that read the same. -/
theorem sameInts_same (a b : Option Addr) (n c d : Nat) (z : Nat → Int) (w : World) (ha : IntsAt w a n z) (hb : IntsAt w b n z) (hn : n ≤ 9223372036854775806) :
    Calls Try.prog 12 #[.slice a n c, .slice b n d] w fun e w' => e = .returned (.bool true) ∧ Below w.heap.size w w' := by
  go_enter Try.func12, Try.ntmps12
  go_wp2
  go_loopw [5] (fun v wr => ∃ k q : Nat, k ≤ n ∧ v = .int .i64 k ∧ wr = w.drewN q) (fun v _ => n - (intOf v).toNat)
  case atStart => exact ⟨0, 0, by omega, rfl, rfl⟩
  case round =>
    obtain ⟨k, q, hk, rfl, rfl⟩ := hrel
    have belq : Below w.heap.size w (w.drewN q) := below_drewN (Below.refl _ _) q
    by_cases hlt : k < n
    · obtain ⟨b1, o1, rfl, _, hc1⟩ := ha k hlt
      obtain ⟨b2, o2, rfl, _, hc2⟩ := hb k hlt
      have i1 : (0 : Int) ≤ (k : Int) := by omega
      have i2 : (k : Int) < (n : Int) := by omega
      generalize z k = zk at hc1 hc2
      go_wp2_with fail
      go_quiet (fail)
      go_wp2_with fail
      go_roundw
      case rel => exact ⟨k + 1, _, by omega, by go_num, by first | rfl | rw [World.drewN_drewN]⟩
      case measure => simp [intOf]; omega
    · obtain rfl : k = n := by omega
      go_wp2_with fail
      go_ret
      exact ⟨rfl, belq⟩

set_option maxRecDepth 100000 in
set_option maxHeartbeats 1000000 in
/-- cncref15.Rings: any two numbers. -/
theorem rRings_any (size step : Int) (w : World) (hw : size ≤ 9223372036854775807) :
    Calls Try.prog 14 #[.int .i64 size, .int .i64 step] w (Coll w (RingsRow size step)) := by
  by_cases h1 : 1 ≤ size
  · by_cases h2 : 1 ≤ step
    · by_cases hN : rgN size step ≤ 1000
      · have e : RingsRow size step = ringsL size step := if_pos ⟨h1, h2, hN⟩
        rw [e]
        clear e
        obtain ⟨i0, hi, hz0, hz1, hz2⟩ := info_parts infoInt
        have hmany := fun W => many_any size step W h1 hw h2
        rw [show decide (1000 < rgN size step) = false from decide_eq_false (by omega)] at hmany
        have hpos := rgN_pos h1 h2
        have HM := Lib.hid hmany
        clear hmany
        go_enter Try.func14, Try.ntmps14
        go_wp2_with (go_at_call 25; refine (HM.out _).mono ?_; rintro e w' ⟨rfl, rfl⟩)
        go_loopw [5, 6] (fun v i wr => ∃ (j : Nat) (x : Int), j + 1 ≤ rgN size step ∧ i = .int .i64 x ∧ Hid (x = (j : Int) * step) ∧ wr.ownsRow w.heap.size 3 1 v j (((ringsL size step).take j).map (Value.int .i64)) ∧ Below w.heap.size w wr)
          (fun _ i _ => (size - intOf i).toNat)
        case atStart => exact ⟨0, 0, hpos, rfl, Lib.hid (by simp), World.ownsRow_nil _ _ _ _, Below.refl _ _⟩
        case round =>
          obtain ⟨j, x, hj, rfl, hx, own, bel⟩ := hrel
          have hx0 : 0 ≤ x := by rw [hx.out]; exact Int.mul_nonneg (by omega) (by omega)
          have hx1 : ((j : Int) + 1) * step = x + step := by rw [Int.add_mul, hx.out]; omega
          have hts := ringsL_take_succ size step j (by omega)
          have htl : ((ringsL size step).take j).length = j := by rw [List.length_take, ringsL_len]; omega
          by_cases hlt : j + 1 < rgN size step
          · have hm := mul_lt h1 h2 hlt
            rw [ring_mid hlt, hx1] at hts
            rw [hx1] at hm
            have d1 : decide (step < size - x) = true := by simp; omega
            have hx' : Hid (x + step = ((j + 1 : Nat) : Int) * step) := Lib.hid (by rw [← hx1]; push_cast; rfl)
            obtain ⟨hm1, hm2⟩ := hm
            have HTS := Lib.hid hts
            have hsz := bel.size
            clear hts htl hx1 hx
            go_wp2_with (at_builtin; refine wpList_append_own _ rfl (.tmp 26) (.tmp 28) 25 rfl w.heap.size 3 i0 (.int .i64 0) 1 8 Try.underlying25 hi hz0 hz1 hz2 rfl (by decide) _ _ _ rfl (own.alloc _) ⟨wr.heap.size, 0, none⟩ 1 1 [.int .i64 (x + step)] rfl rfl (cell_one_at _ _ _ _ rfl) (by simp [Value.oneCell']) (by unfold maxLen; omega) (by omega) (by simp; omega) ?_)
            intro v' w1 own' hgrow _
            have bel1 : Below w.heap.size w w1 := (bel.alloc hsz (.cells #[.int .i64 (x + step)] 3)).grown hgrow (by simp; omega) (fun k e => (own.lt k e).1)
            have own2 : w1.ownsRow w.heap.size 3 1 v' (j + 1) (((ringsL size step).take (j + 1)).map (Value.int .i64)) := by rw [HTS.out]; simpa using own'
            clear own own' hgrow bel hsz
            go_wp2_with fail
            go_roundw
            case rel => exact ⟨j + 1, x + step, by omega, by go_num, hx', own2, bel1⟩
            case measure => simp [intOf]; omega
          · have hm := mul_ge (k := j) h1 h2 (by omega)
            rw [ring_last (by omega)] at hts
            have hall : (ringsL size step).take (j + 1) = ringsL size step := List.take_of_length_le (by rw [ringsL_len]; omega)
            rw [hx1] at hm
            rw [hall] at hts
            have d1 : decide (step < size - x) = false := by simp; omega
            have HJ : Hid (rgN size step = j + 1) := Lib.hid (by omega)
            have hjl : j ≤ 1000 := by omega
            have HTS := Lib.hid hts
            have hsz := bel.size
            have hx2 : x < size := by
              by_cases h0 : j = 0
              · subst h0
                have := hx.out
                simp at this
                omega
              · have := (mul_lt (k := j - 1) h1 h2 (by omega)).1
                rw [show (((j - 1 : Nat) : Int) + 1) = (j : Int) by omega, ← hx.out] at this
                exact this
            clear hts htl hx1 hx hall hj hlt
            go_wp2_with (at_builtin; refine wpList_append_own _ rfl (.tmp 30) (.tmp 32) 25 rfl w.heap.size 3 i0 (.int .i64 0) 1 8 Try.underlying25 hi hz0 hz1 hz2 rfl (by decide) _ _ _ rfl (own.alloc _) ⟨wr.heap.size, 0, none⟩ 1 1 [.int .i64 size] rfl rfl (cell_one_at _ _ _ _ rfl) (by simp [Value.oneCell']) (by unfold maxLen; omega) (by omega) (by simp; omega) ?_)
            intro v' w1 own' hgrow _
            have bel1 : Below w.heap.size w w1 := (bel.alloc hsz (.cells #[.int .i64 size] 3)).grown hgrow (by simp; omega) (fun k e => (own.lt k e).1)
            go_wp2_with fail
            go_ret
            refine ⟨v', rfl, ?_, bel1⟩
            rw [ringsL_len, HJ.out, HTS.out]
            simpa using own'
      · have e : RingsRow size step = [] := if_neg (by omega)
        rw [e]
        clear e
        have hmany := fun W => many_any size step W h1 hw h2
        rw [show decide (1000 < rgN size step) = true from decide_eq_true (by omega)] at hmany
        have HM := Lib.hid hmany
        clear hmany
        go_enter Try.func14, Try.ntmps14
        go_wp2_with (go_at_call 25; refine (HM.out _).mono ?_; rintro e w' ⟨rfl, rfl⟩)
        go_ret
        exact ⟨_, rfl, World.ownsRow_nil _ _ _ _, Below.refl _ _⟩
    · have e : RingsRow size step = [] := if_neg (by omega)
      rw [e]
      clear e
      go_enter Try.func14, Try.ntmps14
      go_wp2_with fail
      go_ret
      exact ⟨_, rfl, World.ownsRow_nil _ _ _ _, Below.refl _ _⟩
  · have e : RingsRow size step = [] := if_neg (by omega)
    rw [e]
    clear e
    go_enter Try.func14, Try.ntmps14
    go_wp2_with fail
    go_ret
    exact ⟨_, rfl, World.ownsRow_nil _ _ _ _, Below.refl _ _⟩
end Go.Proofs.Ytnbfhdapdlpgiaa

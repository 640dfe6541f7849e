/-
  What the functions of the packages backlash, cncref28 and cnclaw28 leave. Positions are at most 2^41 away from 0.
-/
import Derived.Test.YtmfnclkidjfedaaAxes
namespace Go.Proofs.Ytmfnclkidjfedaa
open Go Go.RowKit
set_option linter.unusedVariables false

def nearB (n : Int) : Bool := decide (-1099511627776 ≤ n ∧ n ≤ 1099511627776)
def tab (b t m : Int) : Int := min (max t m) (m + b)

theorem awake_true (w : World) : Calls Try.prog 8 #[] w fun e w' => e = .returned (.bool true) ∧ Below w.heap.size w w' := by
  go_enter Try.func8, Try.ntmps8
  go_wp2
  go_ret
  exact ⟨rfl, by repeat (first | exact Below.refl _ _ | (refine Below.alloc ?_ (by simp; try omega) _) | refine Below.drew ?_)⟩

theorem near_any (n : Int) (w : World) : Calls Try.prog 10 #[.int .i64 n] w fun e w' => e = .returned (.bool (nearB n)) ∧ w = w' := by
  by_cases h1 : -1099511627776 ≤ n
  · by_cases h2 : n ≤ 1099511627776
    · go_enter Try.func10, Try.ntmps10
      go_wp2
      go_ret
      exact ⟨ret_bool (by unfold nearB; simp [h1, h2]), rfl⟩
    · go_enter Try.func10, Try.ntmps10
      go_wp2
      go_ret
      exact ⟨ret_bool (by unfold nearB; exact (decide_eq_false (by omega)).symm), rfl⟩
  · go_enter Try.func10, Try.ntmps10
    go_wp2
    go_ret
    exact ⟨ret_bool (by unfold nearB; exact (decide_eq_false (by omega)).symm), rfl⟩

theorem table_any (v : AxisV) (hv : v.Good) (t m : Int) (w : World) (ht : -2199023255552 ≤ t) (ht' : t ≤ 2199023255552) (hm : -2199023255552 ≤ m) (hm' : m ≤ 2199023255552) :
    Calls Try.prog 13 #[.agg v.cells, .int .i64 t, .int .i64 m] w fun e w' => e = .returned (.int .i64 (tab v.ba t m)) ∧ w.alloc (.cells v.cells 25) = w' := by
  obtain ⟨b0, b1⟩ := hv.ba
  clear hv
  unfold AxisV.cells
  go_enter Try.func13, Try.ntmps13
  go_wp2
  all_goals
    go_ret
    exact ⟨ret_int (by unfold tab; omega), rfl⟩

theorem rtable_any (v : AxisV) (hv : v.Good) (t m : Int) (w : World) (ht : -2199023255552 ≤ t) (ht' : t ≤ 2199023255552) (hm : -2199023255552 ≤ m) (hm' : m ≤ 2199023255552) :
    Calls Try.prog 14 #[.agg v.cells, .int .i64 t, .int .i64 m] w fun e w' => e = .returned (.int .i64 (tab v.ba t m)) ∧ w.alloc (.cells v.cells 25) = w' := by
  obtain ⟨b0, b1⟩ := hv.ba
  clear hv
  unfold AxisV.cells
  go_enter Try.func14, Try.ntmps14
  go_wp2
  all_goals
    go_ret
    exact ⟨ret_int (by unfold tab; omega), rfl⟩

def shiftOf (b d : Int) : Int := if d = -1 then -b else 0

theorem shift_any (v : AxisV) (hv : v.Good) (d : Int) (w : World) :
    Calls Try.prog 11 #[.agg v.cells, .int .i64 d] w fun e w' => e = .returned (.int .i64 (shiftOf v.ba d)) ∧ w.alloc (.cells v.cells 25) = w' := by
  obtain ⟨b0, b1⟩ := hv.ba
  clear hv
  unfold AxisV.cells
  by_cases hd : d = -1
  · subst hd
    go_enter Try.func11, Try.ntmps11
    go_wp2
    go_ret
    exact ⟨ret_int rfl, rfl⟩
  · have hd' : (d == -1) = false := by simpa using hd
    go_enter Try.func11, Try.ntmps11
    go_wp2
    go_ret
    exact ⟨ret_int (by unfold shiftOf; rw [if_neg hd]), rfl⟩

theorem rshift_any (v : AxisV) (hv : v.Good) (d : Int) (w : World) :
    Calls Try.prog 12 #[.agg v.cells, .int .i64 d] w fun e w' => e = .returned (.int .i64 (shiftOf v.ba d)) ∧ w.alloc (.cells v.cells 25) = w' := by
  obtain ⟨b0, b1⟩ := hv.ba
  clear hv
  unfold AxisV.cells
  by_cases hd : d = -1
  · subst hd
    go_enter Try.func12, Try.ntmps12
    go_wp2
    go_ret
    exact ⟨ret_int rfl, rfl⟩
  · have hd' : (d == -1) = false := by simpa using hd
    go_enter Try.func12, Try.ntmps12
    go_wp2
    go_ret
    exact ⟨ret_int (by unfold shiftOf; rw [if_neg hd]), rfl⟩

theorem axis0 (v1 v2 v3 : AxisV) (W : World) : (Instr.index 26 (.agg (v1.cells ++ v2.cells ++ v3.cells)) (.int .i64 0)).run Try.prog W = .ok (.agg v1.cells) W := by kernel_rfl
theorem IsRow.below {k : IntKind} {w w' : World} {a : Option Addr} {len cap : Nat} {zs : List Int} (h : IsRow k w a len cap zs) (hb : Below w.heap.size w w') : IsRow k w' a len cap zs := by
  rcases h with h | ⟨x, e, hl, hm, hz, hc, hw⟩
  · exact .inl h
  · refine .inr ⟨x, e, hl, hm, hz, fun i hi => ?_, hw⟩
    have := hc i hi
    rw [hb.cell (block_lt_of_cell this)]
    exact this

end Go.Proofs.Ytmfnclkidjfedaa

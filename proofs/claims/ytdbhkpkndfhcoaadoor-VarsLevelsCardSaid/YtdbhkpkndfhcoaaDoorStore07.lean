/-
  vars.Store: its cells in memory; New, Level, cell, Local; fixed.Valid. Stores of 1 to 9 levels.
-/
import Derived.Test.YtdbhkpkndfhcoaaDoorBase
import Derived.Test.YtdbhkpkndfhcoaaDoorBuild
import Derived.Test.YtdbhkpkndfhcoaaDoorChecked
import Derived.Lib.LaidTab
import Derived.Lib.Hide
import Derived.BigQuiet
import Derived.Deep.QuietTactic
import Derived.Laws.OwnMore
namespace Go.Proofs.YtdbhkpkndfhcoaaDoor
open Go Go.RowKit
set_option linter.unusedVariables false

/-- The numbers of the local variables of the letters. -/
def tabNums : List Int := [1, 2, 3, 7, 8, 9, 0, 11, 4, 5, 6, 0, 13, 0, 0, 0, 17, 18, 19, 20, 21, 22, 23, 24, 25, 26]

/-- The cells of a store: the levels' slice, then the common and the system variables. -/
def stC (lv : Value) (C : Nat → Int) : Array Value := (lv :: (List.range 1100).map fun i => Value.int .i64 (C i)).toArray
theorem stC_size (lv : Value) (C : Nat → Int) : (stC lv C).size = 1101 := by simp [stC]
theorem stC_zero (lv : Value) (C : Nat → Int) : (stC lv C)[0]? = some lv := by simp [stC]
theorem stC_at (lv : Value) (C : Nat → Int) {i : Nat} (h : i < 1100) : (stC lv C)[i + 1]? = some (.int .i64 (C i)) := by simp [stC, h]
def updC (C : Nat → Int) (i : Nat) (v : Int) : Nat → Int := fun k => if k = i then v else C k
theorem stC_set (lv : Value) (C : Nat → Int) {i : Nat} (h : i < 1100) (v : Int) : (stC lv C).setIfInBounds (i + 1) (.int .i64 v) = stC lv (updC C i v) := by
  apply Array.ext_getElem?
  intro j
  rw [Array.getElem?_setIfInBounds]
  rcases j with _ | j
  · rw [if_neg (by omega), stC_zero, stC_zero]
  · by_cases hj : j < 1100
    · rw [stC_at _ _ hj, stC_at _ _ hj, stC_size]
      unfold updC
      by_cases e : i = j
      · subst e
        simp [h]
      · rw [if_neg (by omega), if_neg (by omega)]
    · rw [if_neg (by omega), Array.getElem?_eq_none (by rw [stC_size]; omega), Array.getElem?_eq_none (by rw [stC_size]; omega)]
theorem stC_lv (lv lv' : Value) (C : Nat → Int) : (stC lv C).setIfInBounds 0 lv' = stC lv' C := by
  apply Array.ext_getElem?
  intro j
  rw [Array.getElem?_setIfInBounds]
  rcases j with _ | j
  · rw [if_pos rfl, if_pos (by rw [stC_size]; omega), stC_zero]
  · rw [if_neg (by omega)]
    by_cases hj : j < 1100
    · rw [stC_at _ _ hj, stC_at _ _ hj]
    · rw [Array.getElem?_eq_none (by rw [stC_size]; omega), Array.getElem?_eq_none (by rw [stC_size]; omega)]
/-- A store of n levels: its block, the block of its levels, what they hold. -/
def StAt (W : World) (base s g cap n : Nat) (V : List Int) (C : Nat → Int) : Prop :=
  Blk W s 60 (stC (.slice (some ⟨g, 0, none⟩) n cap) C) ∧ W.ownsRow base 50 33 (.slice (some ⟨g, 0, none⟩) n cap) n (V.map (Value.int .i64)) ∧ s ≠ g ∧ base ≤ s ∧ 1 ≤ n ∧ n ≤ 9
theorem StAt.below {W W' : World} {base s g cap n : Nat} {V : List Int} {C : Nat → Int} (h : StAt W base s g cap n V C) (hb : Below W.heap.size W W') : StAt W' base s g cap n V C :=
  ⟨h.1.below hb h.1.lt, h.2.1.kept (grown_of_below hb) (Classical.em _), h.2.2⟩

theorem new_built (n : Nat) : Tryd.prog.built 60 [(0, .slice (some ⟨n, 0, none⟩) 1 1)] = some (stC (.slice (some ⟨n, 0, none⟩) 1 1) fun _ => 0) := by with_unfolding_all kernel_rfl
theorem infoLevel : (Tryd.prog.info? 50).map (fun i => (i.zero, i.size, i.bytes)) = some (some (.agg (List.replicate 33 (Value.int .i64 0)).toArray), 33, 264) := by kernel_rfl
theorem make1 (w : World) : (Instr.makeSlice 56 (.int .i64 1) (.int .i64 1)).run Tryd.prog w = .ok (.slice (some ⟨w.heap.size, 0, none⟩) 1 1) (w.alloc (.cells (List.replicate 33 (Value.int .i64 0)).toArray 50)) := by
  obtain ⟨i0, hi, hz0, hz1, hz2⟩ := info_parts infoLevel
  have := run_makeSlice w 56 50 i0 _ Tryd.underlying56 hi hz0 .i64 .i64 1 1 (by omega) (by omega) (by rw [hz1]; decide) (by rw [hz2]; decide) (by omega)
  rw [this, hz1]
  congr 2
  exact congrArg (Obj.cells · 50) (by kernel_rfl)
attribute [local go_sem ↓] make1
set_option maxRecDepth 100000 in
theorem new_any (w : World) : Calls Tryd.prog 13 #[] w fun e w' => ∃ s g, e = .returned (.pointer (some ⟨s, 0, none⟩)) ∧ StAt w' w.heap.size s g 1 1 (List.replicate 33 0) (fun _ => 0) ∧ Below w.heap.size w w' := by
  go_enter Tryd.func13, Tryd.ntmps13
  go_wp2_with (first
    | ((with_reducible refine go_built 60 _ (stC (.slice (some ⟨w.heap.size, 0, none⟩) 1 1) fun _ => 0) (by with_unfolding_all exact new_built _) ?_)))
  go_ret
  have h1 := World.ownsRow_lit (base := w.heap.size) (e := 50) (size := 33) w ((List.replicate 33 (Value.int .i64 0)).toArray) 1 (Nat.le_refl _) (by decide) (by simp)
  have h2 := h1.kept (World.grownBy_alloc _ (.cells (stC (.slice (some ⟨w.heap.size, 0, none⟩) 1 1) fun _ => 0) 60) none) (Classical.em _)
  have h3 := Blk.new (w.alloc (.cells ((List.replicate 33 (Value.int .i64 0)).toArray) 50)) 60 (stC (.slice (some ⟨w.heap.size, 0, none⟩) 1 1) fun _ => 0)
  refine ⟨w.heap.size + 1, w.heap.size, ?_, ⟨?_, ?_, by omega, by omega, by omega, by omega⟩, ?_⟩
  · rfl
  · simpa using h3
  · simpa using h2
  · exact ((Below.refl w.heap.size w).alloc (Nat.le_refl _) _).alloc (by simp) _

theorem level_any (base s g cap n : Nat) (V : List Int) (C : Nat → Int) (w : World) (h : StAt w base s g cap n V C) : Calls Tryd.prog 15 #[.pointer (some ⟨s, 0, none⟩)] w fun e w' => e = .returned (.int .i64 ((n : Int) - 1)) ∧ w = w' := by
  have c0 := (h.1.cell 0).trans (stC_zero _ _)
  have hn : n ≤ 9 := h.2.2.2.2.2
  have hw : IntKind.i64.wrap ((n : Int) - 1) = (n : Int) - 1 := by rw [IntKind.wrap_i64]; omega
  go_enter Tryd.func15, Tryd.ntmps15
  go_wp2
  go_ret
  exact ⟨ret_int rfl, rfl⟩

theorem valid_any (v : Int) (w : World) : Calls Tryd.prog 29 #[.int .i64 v] w fun e w' => e = .returned (.bool (decide (-1000000000000000 ≤ v ∧ v ≤ 1000000000000000))) ∧ w = w' := by
  by_cases h1 : -1000000000000000 ≤ v
  · by_cases h2 : v ≤ 1000000000000000
    all_goals
      go_enter Tryd.func29, Tryd.ntmps29
      go_wp2
      go_ret
      exact ⟨by simp [h1, h2], rfl⟩
  · go_enter Tryd.func29, Tryd.ntmps29
    go_wp2
    go_ret
    exact ⟨by simp; omega, rfl⟩

/-! ### The places of the variables -/
set_option maxRecDepth 100000 in
theorem cell_local {base s g cap n : Nat} {V : List Int} {C : Nat → Int} (i : Nat) (hi : i < 33) (w : World) (h : StAt w base s g cap n V C) :
    Calls Tryd.prog 28 #[.pointer (some ⟨s, 0, none⟩), .int .i64 ((i : Int) + 1)] w fun e w' => e = .returned (.tuple #[.pointer (some ⟨g, (n - 1) * 33 + i, none⟩), .bool false]) ∧ ∃ m, w' = w.drewN m := by
  have c0 := (h.1.cell 0).trans (stC_zero _ _)
  have hn : n ≤ 9 := h.2.2.2.2.2
  have hn1 : 1 ≤ n := h.2.2.2.2.1
  have hw : IntKind.i64.wrap ((n : Int) - 1) = (n : Int) - 1 := by rw [IntKind.wrap_i64]; omega
  have i0 : (0 : Int) ≤ (n : Int) - 1 := by omega
  have i1 : (n : Int) - 1 < (n : Int) := by omega
  have i2 : ((n : Int) - 1).toNat = n - 1 := by omega
  have i3 : (0 : Int) ≤ (i : Int) := by omega
  have i4 : (i : Int) < 33 := by omega
  have i5 : (i : Int) + 1 - 1 = (i : Int) := by omega
  have d1 : decide ((1 : Int) ≤ (i : Int) + 1) = true := by simp; omega
  have d2 : decide ((i : Int) + 1 ≤ 33) = true := by simp; omega
  go_enter Tryd.func28, Tryd.ntmps28
  go_wp2
  go_quiet (fail)
  go_wp2
  go_ret2
  exact ⟨rfl, _, rfl⟩

theorem cell_common {base s g cap n : Nat} {V : List Int} {C : Nat → Int} (i : Nat) (hi : i < 100) (w : World) (h : StAt w base s g cap n V C) :
    Calls Tryd.prog 28 #[.pointer (some ⟨s, 0, none⟩), .int .i64 ((i : Int) + 100)] w fun e w' => e = .returned (.tuple #[.pointer (some ⟨s, 1 + i, none⟩), .bool false]) ∧ w' = w := by
  have i3 : (0 : Int) ≤ (i : Int) := by omega
  have i4 : (i : Int) < 100 := by omega
  have i5 : (i : Int) + 100 - 100 = (i : Int) := by omega
  have d1 : decide ((1 : Int) ≤ (i : Int) + 100) = true := by simp; omega
  have d2 : decide ((i : Int) + 100 ≤ 33) = false := by simp; omega
  have d3 : decide ((100 : Int) ≤ (i : Int) + 100) = true := by simp; omega
  have d4 : decide ((i : Int) + 100 ≤ 199) = true := by simp; omega
  go_enter Tryd.func28, Tryd.ntmps28
  go_wp2
  go_ret2
  exact ⟨rfl, rfl⟩

theorem cell_system {base s g cap n : Nat} {V : List Int} {C : Nat → Int} (i : Nat) (hi : i < 1000) (w : World) (h : StAt w base s g cap n V C) :
    Calls Tryd.prog 28 #[.pointer (some ⟨s, 0, none⟩), .int .i64 ((i : Int) + 5000)] w fun e w' => e = .returned (.tuple #[.pointer (some ⟨s, 101 + i, none⟩), .bool true]) ∧ w' = w := by
  have i3 : (0 : Int) ≤ (i : Int) := by omega
  have i4 : (i : Int) < 1000 := by omega
  have i5 : (i : Int) + 5000 - 5000 = (i : Int) := by omega
  have d1 : decide ((1 : Int) ≤ (i : Int) + 5000) = true := by simp; omega
  have d2 : decide ((i : Int) + 5000 ≤ 33) = false := by simp; omega
  have d3 : decide ((100 : Int) ≤ (i : Int) + 5000) = true := by simp; omega
  have d4 : decide ((i : Int) + 5000 ≤ 199) = false := by simp; omega
  have d5 : decide ((5000 : Int) ≤ (i : Int) + 5000) = true := by simp; omega
  have d6 : decide ((i : Int) + 5000 ≤ 5999) = true := by simp; omega
  go_enter Tryd.func28, Tryd.ntmps28
  go_wp2
  go_ret2
  exact ⟨rfl, rfl⟩

def noVar (k : Int) : Prop := ¬ (1 ≤ k ∧ k ≤ 33) ∧ ¬ (100 ≤ k ∧ k ≤ 199) ∧ ¬ (5000 ≤ k ∧ k ≤ 5999)
theorem cell_none {base s g cap n : Nat} {V : List Int} {C : Nat → Int} (k : Int) (hk : noVar k) (w : World) (h : StAt w base s g cap n V C) :
    Calls Tryd.prog 28 #[.pointer (some ⟨s, 0, none⟩), .int .i64 k] w fun e w' => e = .returned (.tuple #[.pointer none, .bool false]) ∧ w' = w := by
  obtain ⟨k1, k2, k3⟩ := hk
  have hc : k < 1 ∨ (1 ≤ k ∧ 33 < k ∧ k < 100) ∨ (1 ≤ k ∧ 33 < k ∧ 100 ≤ k ∧ 199 < k ∧ k < 5000) ∨ (1 ≤ k ∧ 33 < k ∧ 100 ≤ k ∧ 199 < k ∧ 5000 ≤ k ∧ 5999 < k) := by omega
  clear k1 k2 k3
  rcases hc with k1 | ⟨k1, k2, k3⟩ | ⟨k1, k2, k3, k4, k5⟩ | ⟨k1, k2, k3, k4, k5, k6⟩
  · have k2 : k < 100 := by omega
    have k3 : k < 5000 := by omega
    go_enter Tryd.func28, Tryd.ntmps28
    go_wp2
    go_ret2
    exact ⟨rfl, rfl⟩
  · have k4 : k < 5000 := by omega
    go_enter Tryd.func28, Tryd.ntmps28
    go_wp2
    go_ret2
    exact ⟨rfl, rfl⟩
  all_goals
    go_enter Tryd.func28, Tryd.ntmps28
    go_wp2
    go_ret2
    exact ⟨rfl, rfl⟩

/-- The number of the local variable of a letter. -/
def localN (c : Int) : Int := if 65 ≤ c ∧ c ≤ 90 then tabNums.getD (c - 65).toNat 0 else 0
theorem local_any (c : Int) (w : World) (ht : Lib.TabIs Tryd.prog w "cnc/vars.numbers" .i64 tabNums) : Calls Tryd.prog 11 #[.int .i64 c] w fun e w' => e = .returned (.int .i64 (localN c)) ∧ w = w' := by
  have gVar : Tryd.prog.globalNamed "cnc/vars.numbers" = some 0 := by kernel_rfl
  by_cases h : 65 ≤ c ∧ c ≤ 90
  · have hc := ht.cell gVar (c - 65).toNat (by unfold tabNums; simp; omega)
    have hl : localN c = tabNums.getD (c - 65).toNat 0 := if_pos h
    rw [← hl] at hc
    obtain ⟨h1, h2⟩ := h
    have hw : IntKind.i64.wrap (c - 65) = c - 65 := by rw [IntKind.wrap_i64]; omega
    have i1 : (0 : Int) ≤ c - 65 := by omega
    have i2 : c - 65 < 26 := by omega
    clear hl ht
    go_enter Tryd.func11, Tryd.ntmps11
    go_wp2
    go_ret
    exact ⟨ret_int rfl, rfl⟩
  · have hl : localN c = 0 := if_neg h
    rw [hl]
    by_cases h1 : 65 ≤ c
    · have h2 : 90 < c := by omega
      go_enter Tryd.func11, Tryd.ntmps11
      go_wp2
      go_ret
      exact ⟨ret_int rfl, rfl⟩
    · have h2 : c < 65 := by omega
      go_enter Tryd.func11, Tryd.ntmps11
      go_wp2
      go_ret
      exact ⟨ret_int rfl, rfl⟩
end Go.Proofs.YtdbhkpkndfhcoaaDoor

/-
  Tools in memory; tools.Valid and cncref16.Valid: whether a table is valid. Any table.
-/
import Derived.Test.YtlpmbjgimllmgaaDoorPlan16
import Derived.Test.YtlpmbjgimllmgaaDoorTape16
import Derived.Test.YtlpmbjgimllmgaaDoorHeldL
namespace Go.Proofs.YtlpmbjgimllmgaaDoor
open Go Go.RowKit
set_option linter.unusedVariables false

/-- The tools lie in memory. -/
def TosAt (W : World) (a : Option Addr) (l : List To) : Prop := ∀ i t, l[i]? = some t → ∃ b o, a = some ⟨b, o, none⟩ ∧ b < W.heap.size ∧ ∀ j v, (toC t)[j]? = some v → W.cell? ⟨b, o + i * 4 + j, none⟩ = some v
theorem TosAt.below {W W' : World} {a : Option Addr} {l : List To} (h : TosAt W a l) (hb : Below W.heap.size W W') : TosAt W' a l := fun i t hi => by
  obtain ⟨b, o, e, hl, hc⟩ := h i t hi
  exact ⟨b, o, e, by have := hb.size; omega, fun j v hv => (hb.cell (p := ⟨b, o + i * 4 + j, none⟩) hl).trans (hc j v hv)⟩
theorem TosAt.nil (W : World) (a : Option Addr) : TosAt W a [] := fun i t hi => by simp at hi
theorem tos_own {W : World} {base : Nat} {v : Value} {l : List To} (h : W.ownsRow base 29 4 v l.length (tosC l)) : ∃ a c, v = .slice a l.length c ∧ TosAt W a l ∧ (a = none → l.length = 0 ∧ c = 0) := by
  rcases h.2 with ⟨rfl, e⟩ | ⟨g, cap, cur, rfl, hb, _⟩
  · refine ⟨none, 0, by rw [e], fun i t hi => ?_, fun _ => ⟨e, rfl⟩⟩
    have := (List.getElem?_eq_some_iff.1 hi).1
    omega
  · refine ⟨_, _, rfl, fun i t hi => ⟨g, 0, rfl, (h.lt g rfl).2, fun j v hv => ?_⟩, fun e => by cases e⟩
    have hlt := (List.getElem?_eq_some_iff.1 hi).1
    have hj : j < 4 := (List.getElem?_eq_some_iff.1 hv).1
    rw [Nat.zero_add, h.cellAt _ (by omega), tosC_at l i j t hi hj]
    exact hv
/-- A table that came in. -/
theorem tos_tab {W : World} {a : Option Addr} {len cap : Nat} (h : Leaf W (.tab [.int .i64, .int .i64, .int .i64, .int .i64]) (.slice a len cap)) : ∃ l : List To, l.length = len ∧ TosAt W a l ∧ len ≤ 9223372036854775807 := by
  obtain ⟨f, hT, hL, hmax, _⟩ := TabAt.of_leaf (C := 4) h rfl (by omega)
  have hev : ∀ i, i < len → ∃ e : To, f i = toC e := fun i hi => by
    have hl := hL i hi
    obtain ⟨hlen, _⟩ := hT i hi
    match f i, hl, hlen with
    | [x, y, z, u], hl, _ =>
      obtain ⟨h1, h2, h3, h4, _⟩ := hl
      cases h1
      cases h2
      cases h3
      cases h4
      exact ⟨⟨_, _, _, _⟩, rfl⟩
  have hch : ∃ g : Nat → To, ∀ i, i < len → f i = toC (g i) := by
    refine ⟨fun i => if hi : i < len then Classical.choose (hev i hi) else ⟨0, 0, 0, 0⟩, fun i hi => ?_⟩
    simp only [hi, dif_pos]
    exact Classical.choose_spec (hev i hi)
  obtain ⟨g, hg⟩ := hch
  refine ⟨(List.range len).map g, by simp, fun i t hi => ?_, hmax⟩
  obtain ⟨hil, e⟩ := List.getElem?_eq_some_iff.1 hi
  simp at hil e
  obtain ⟨_, b, o, ea, hlt, hc⟩ := hT i hil
  refine ⟨b, o, ea, hlt, fun j v hv => ?_⟩
  have hj : j < 4 := (List.getElem?_eq_some_iff.1 hv).1
  rw [hc j hj, hg i hil, e]
  exact hv

theorem coord_any (n : Int) (w : World) : Calls Tryd.prog 39 #[.int .i64 n] w fun e w' => e = .returned (.bool (decide (inC n))) ∧ w = w' := by
  by_cases h1 : -1048576 ≤ n
  · by_cases h2 : n ≤ 1048576
    · have e1 : decide (-1048576 ≤ n) = true := decide_eq_true h1
      have e2 : decide (n ≤ 1048576) = true := decide_eq_true h2
      have R : decide (inC n) = true := decide_eq_true ⟨h1, h2⟩
      have R := Lib.hid R
      go_enter Tryd.func39, Tryd.ntmps39
      go_wp2_with fail
      go_ret
      exact ⟨by first | rfl | (rw [R.out]; rfl), rfl⟩
    · have e1 : decide (-1048576 ≤ n) = true := decide_eq_true h1
      have e2 : decide (n ≤ 1048576) = false := decide_eq_false h2
      have R : decide (inC n) = false := decide_eq_false fun h => h2 h.2
      have R := Lib.hid R
      go_enter Tryd.func39, Tryd.ntmps39
      go_wp2_with fail
      go_ret
      exact ⟨by first | rfl | (rw [R.out]; rfl), rfl⟩
  · have e1 : decide (-1048576 ≤ n) = false := decide_eq_false h1
    have R : decide (inC n) = false := decide_eq_false fun h => h1 h.1
    have R := Lib.hid R
    go_enter Tryd.func39, Tryd.ntmps39
    go_wp2_with fail
    go_ret
    exact ⟨by first | rfl | (rw [R.out]; rfl), rfl⟩
theorem in_any (n : Int) (w : World) : Calls Tryd.prog 30 #[.int .i64 n, .int .i64 1048576] w fun e w' => e = .returned (.bool (decide (inC n))) ∧ w = w' := by
  by_cases h1 : -1048576 ≤ n
  · by_cases h2 : n ≤ 1048576
    · have e1 : decide (-1048576 ≤ n) = true := decide_eq_true h1
      have e2 : decide (n ≤ 1048576) = true := decide_eq_true h2
      have R : decide (inC n) = true := decide_eq_true ⟨h1, h2⟩
      have R := Lib.hid R
      go_enter Tryd.func30, Tryd.ntmps30
      go_wp2_with fail
      go_ret
      exact ⟨by first | rfl | (rw [R.out]; rfl), rfl⟩
    · have e1 : decide (-1048576 ≤ n) = true := decide_eq_true h1
      have e2 : decide (n ≤ 1048576) = false := decide_eq_false h2
      have R : decide (inC n) = false := decide_eq_false fun h => h2 h.2
      have R := Lib.hid R
      go_enter Tryd.func30, Tryd.ntmps30
      go_wp2_with fail
      go_ret
      exact ⟨by first | rfl | (rw [R.out]; rfl), rfl⟩
  · have e1 : decide (-1048576 ≤ n) = false := decide_eq_false h1
    have R : decide (inC n) = false := decide_eq_false fun h => h1 h.1
    have R := Lib.hid R
    go_enter Tryd.func30, Tryd.ntmps30
    go_wp2_with fail
    go_ret
    exact ⟨by first | rfl | (rw [R.out]; rfl), rfl⟩
theorem fields_any (x y z u : Int) (w : World) : Calls Tryd.prog 31 #[.agg #[.int .i64 x, .int .i64 y, .int .i64 z, .int .i64 u]] w fun e w' => e = .returned (.agg #[.int .i64 x, .int .i64 y, .int .i64 z, .int .i64 u]) ∧ Below w.heap.size w w' := by
  have b1 := ((Below.refl w.heap.size w).alloc (Nat.le_refl _) (.cells #[.int .i64 x, .int .i64 y, .int .i64 z, .int .i64 u] 29)).alloc (by simp) (.cells #[.int .i64 0, .int .i64 0, .int .i64 0, .int .i64 0] 53)
  have B1 := Blk.new (w.alloc (.cells #[.int .i64 x, .int .i64 y, .int .i64 z, .int .i64 u] 29)) 53 #[.int .i64 0, .int .i64 0, .int .i64 0, .int .i64 0]
  have HB := Lib.hid b1
  clear b1
  go_enter Tryd.func31, Tryd.ntmps31
  go_wp2_with ((with_reducible refine go_built 53 _ #[.int .i64 x, .int .i64 y, .int .i64 z, .int .i64 u] (by with_unfolding_all kernel_rfl) ?_))
  refine bodyPost_ret (results_cell_row rfl _ _ (w.heap.size + 1) 53 #[.int .i64 x, .int .i64 y, .int .i64 z, .int .i64 u] (0, 0) _ rfl (by rw [show w.heap.size + 1 = (w.alloc (.cells #[.int .i64 x, .int .i64 y, .int .i64 z, .int .i64 u] 29)).heap.size by simp]; exact Blk.new _ _ _) Tryd.underlying53 rfl (by kernel_rfl)) rfl ?_
  exact ⟨rfl, ((Below.refl w.heap.size w).alloc (Nat.le_refl _) _).alloc (by simp) _⟩
theorem four_at0 (a b c d : Value) (W : World) : (Instr.index 53 (.agg #[a, b, c, d]) (.int .i64 0)).run Tryd.prog W = .ok a W := by kernel_rfl
theorem four_at1 (a b c d : Value) (W : World) : (Instr.index 53 (.agg #[a, b, c, d]) (.int .i64 1)).run Tryd.prog W = .ok b W := by kernel_rfl
theorem four_at2 (a b c d : Value) (W : World) : (Instr.index 53 (.agg #[a, b, c, d]) (.int .i64 2)).run Tryd.prog W = .ok c W := by kernel_rfl
theorem four_at3 (a b c d : Value) (W : World) : (Instr.index 53 (.agg #[a, b, c, d]) (.int .i64 3)).run Tryd.prog W = .ok d W := by kernel_rfl
theorem good_iff {t : To} (h : inC t.ln ∧ inC t.lw ∧ inC t.rd ∧ inC t.rw) : toGood t = (decide (0 ≤ t.ln + t.lw) && decide (t.ln + t.lw ≤ 1048576) && decide (0 ≤ t.rd + t.rw) && decide (t.rd + t.rw ≤ 32768)) := by
  unfold toGood
  obtain ⟨h1, h2, h3, h4⟩ := h
  simp [h1, h2, h3, h4, Bool.and_assoc]
theorem bad_in {t : To} (h : ¬ (inC t.ln ∧ inC t.lw ∧ inC t.rd ∧ inC t.rw)) : toGood t = false := decide_eq_false fun h' => h ⟨h'.1, h'.2.1, h'.2.2.1, h'.2.2.2.1⟩
set_option maxRecDepth 100000 in
set_option maxHeartbeats 2000000 in
theorem good_any (x y z u : Int) (w : World) : Calls Tryd.prog 29 #[.agg #[.int .i64 x, .int .i64 y, .int .i64 z, .int .i64 u]] w fun e w' => e = .returned (.bool (toGood ⟨x, y, z, u⟩)) ∧ Below w.heap.size w w' := by
  have B0 := Blk.new w 29 #[.int .i64 x, .int .i64 y, .int .i64 z, .int .i64 u]
  have b0 := (Below.refl w.heap.size w).alloc (Nat.le_refl _) (.cells #[.int .i64 x, .int .i64 y, .int .i64 z, .int .i64 u] 29)
  have KF := Lib.hid (fields_any x y z u (w.alloc (.cells #[.int .i64 x, .int .i64 y, .int .i64 z, .int .i64 u] 29)))
  have HB0 := Lib.hid B0
  have Hb0 := Lib.hid b0
  clear B0 b0
  go_enter Tryd.func29, Tryd.ntmps29
  go_wp2_with fail
  refine KF.out.mono ?_
  rintro e w1 ⟨rfl, b1⟩
  have HB1 := Lib.hid (HB0.out.below b1 HB0.out.lt)
  have BEL1 := Lib.hid (Hb0.out.trans (b1.mono (by simp)))
  clear b1 KF HB0 Hb0
  go_wp2_with fail
  go_loopw [9] (fun s9 wr => ∃ k : Nat, k ≤ 4 ∧ s9 = .int .i64 k ∧ ((0 < k → inC x) ∧ (1 < k → inC y) ∧ (2 < k → inC z) ∧ (3 < k → inC u)) ∧ Blk wr w.heap.size 29 #[.int .i64 x, .int .i64 y, .int .i64 z, .int .i64 u] ∧ Below w.heap.size w wr)
    (fun s9 _ => 4 - (intOf s9).toNat)
  case atStart => exact ⟨0, by omega, rfl, ⟨fun h => by omega, fun h => by omega, fun h => by omega, fun h => by omega⟩, HB1.out, BEL1.out⟩
  case round =>
    obtain ⟨k, hk, rfl, ⟨g0, g1, g2, g3⟩, hB, bel⟩ := hrel
    have hk5 : k = 0 ∨ k = 1 ∨ k = 2 ∨ k = 3 ∨ k = 4 := by omega
    clear hk HB1 BEL1
    rcases hk5 with rfl | rfl | rfl | rfl | rfl
    · skip
      have hix := four_at0 (.int .i64 x) (.int .i64 y) (.int .i64 z) (.int .i64 u) wr
      have KC := coord_any x wr
      by_cases hin : inC x
      · rw [decide_eq_true hin] at KC
        have KC := Lib.hid KC
        have HIN := Lib.hid hin
        have BEL := Lib.hid bel
        have HB := Lib.hid hB
        clear hin bel hB
        go_wp2_with fail
        refine KC.out.mono ?_
        rintro e w' ⟨rfl, rfl⟩
        go_wp2_with fail
        go_roundw
        case rel => exact ⟨0 + 1, by omega, by rfl, ⟨fun _ => HIN.out, fun h => by omega, fun h => by omega, fun h => by omega⟩, HB.out, BEL.out⟩
        case measure => simp [intOf]
      · rw [decide_eq_false hin] at KC
        have KC := Lib.hid KC
        have R := Lib.hid (bad_in (t := ⟨x, y, z, u⟩) (fun h => hin h.1))
        have BEL := Lib.hid bel
        clear hin bel hB
        go_wp2_with fail
        refine KC.out.mono ?_
        rintro e w' ⟨rfl, rfl⟩
        go_wp2_with fail
        go_ret
        exact ⟨by rw [R.out]; rfl, BEL.out⟩
    · skip
      have hix := four_at1 (.int .i64 x) (.int .i64 y) (.int .i64 z) (.int .i64 u) wr
      have KC := coord_any y wr
      by_cases hin : inC y
      · rw [decide_eq_true hin] at KC
        have KC := Lib.hid KC
        have HIN := Lib.hid hin
        have BEL := Lib.hid bel
        have HB := Lib.hid hB
        clear hin bel hB
        go_wp2_with fail
        refine KC.out.mono ?_
        rintro e w' ⟨rfl, rfl⟩
        go_wp2_with fail
        go_roundw
        case rel => exact ⟨1 + 1, by omega, by rfl, ⟨fun _ => g0 (by omega), fun _ => HIN.out, fun h => by omega, fun h => by omega⟩, HB.out, BEL.out⟩
        case measure => simp [intOf]
      · rw [decide_eq_false hin] at KC
        have KC := Lib.hid KC
        have R := Lib.hid (bad_in (t := ⟨x, y, z, u⟩) (fun h => hin h.2.1))
        have BEL := Lib.hid bel
        clear hin bel hB
        go_wp2_with fail
        refine KC.out.mono ?_
        rintro e w' ⟨rfl, rfl⟩
        go_wp2_with fail
        go_ret
        exact ⟨by rw [R.out]; rfl, BEL.out⟩
    · skip
      have hix := four_at2 (.int .i64 x) (.int .i64 y) (.int .i64 z) (.int .i64 u) wr
      have KC := coord_any z wr
      by_cases hin : inC z
      · rw [decide_eq_true hin] at KC
        have KC := Lib.hid KC
        have HIN := Lib.hid hin
        have BEL := Lib.hid bel
        have HB := Lib.hid hB
        clear hin bel hB
        go_wp2_with fail
        refine KC.out.mono ?_
        rintro e w' ⟨rfl, rfl⟩
        go_wp2_with fail
        go_roundw
        case rel => exact ⟨2 + 1, by omega, by rfl, ⟨fun _ => g0 (by omega), fun _ => g1 (by omega), fun _ => HIN.out, fun h => by omega⟩, HB.out, BEL.out⟩
        case measure => simp [intOf]
      · rw [decide_eq_false hin] at KC
        have KC := Lib.hid KC
        have R := Lib.hid (bad_in (t := ⟨x, y, z, u⟩) (fun h => hin h.2.2.1))
        have BEL := Lib.hid bel
        clear hin bel hB
        go_wp2_with fail
        refine KC.out.mono ?_
        rintro e w' ⟨rfl, rfl⟩
        go_wp2_with fail
        go_ret
        exact ⟨by rw [R.out]; rfl, BEL.out⟩
    · skip
      have hix := four_at3 (.int .i64 x) (.int .i64 y) (.int .i64 z) (.int .i64 u) wr
      have KC := coord_any u wr
      by_cases hin : inC u
      · rw [decide_eq_true hin] at KC
        have KC := Lib.hid KC
        have HIN := Lib.hid hin
        have BEL := Lib.hid bel
        have HB := Lib.hid hB
        clear hin bel hB
        go_wp2_with fail
        refine KC.out.mono ?_
        rintro e w' ⟨rfl, rfl⟩
        go_wp2_with fail
        go_roundw
        case rel => exact ⟨3 + 1, by omega, by rfl, ⟨fun _ => g0 (by omega), fun _ => g1 (by omega), fun _ => g2 (by omega), fun _ => HIN.out⟩, HB.out, BEL.out⟩
        case measure => simp [intOf]
      · rw [decide_eq_false hin] at KC
        have KC := Lib.hid KC
        have R := Lib.hid (bad_in (t := ⟨x, y, z, u⟩) (fun h => hin h.2.2.2))
        have BEL := Lib.hid bel
        clear hin bel hB
        go_wp2_with fail
        refine KC.out.mono ?_
        rintro e w' ⟨rfl, rfl⟩
        go_wp2_with fail
        go_ret
        exact ⟨by rw [R.out]; rfl, BEL.out⟩
    · have hin : inC x ∧ inC y ∧ inC z ∧ inC u := ⟨g0 (by omega), g1 (by omega), g2 (by omega), g3 (by omega)⟩
      have R := good_iff (t := ⟨x, y, z, u⟩) hin
      simp only at R
      have hb : (-1048576 ≤ x ∧ x ≤ 1048576) ∧ (-1048576 ≤ y ∧ y ≤ 1048576) ∧ (-1048576 ≤ z ∧ z ≤ 1048576) ∧ (-1048576 ≤ u ∧ u ≤ 1048576) := hin
      have c0 := hB.cell 0
      have c1 := hB.cell 1
      have c2 := hB.cell 2
      have c3 := hB.cell 3
      have c0 : wr.cell? ⟨w.heap.size, 0, none⟩ = some (.int .i64 x) := c0
      have c1 : wr.cell? ⟨w.heap.size, 1, none⟩ = some (.int .i64 y) := c1
      have c2 : wr.cell? ⟨w.heap.size, 2, none⟩ = some (.int .i64 z) := c2
      have c3 : wr.cell? ⟨w.heap.size, 3, none⟩ = some (.int .i64 u) := c3
      have HR := Lib.hid R
      have BEL := Lib.hid bel
      clear g0 g1 g2 g3 hin R bel hB
      have hcase : (decide (0 ≤ x + y) = false) ∨ (decide (0 ≤ x + y) = true ∧ decide (x + y ≤ 1048576) = false) ∨ (decide (0 ≤ x + y) = true ∧ decide (x + y ≤ 1048576) = true ∧ decide (0 ≤ z + u) = false) ∨ (decide (0 ≤ x + y) = true ∧ decide (x + y ≤ 1048576) = true ∧ decide (0 ≤ z + u) = true ∧ decide (z + u ≤ 32768) = false) ∨ (decide (0 ≤ x + y) = true ∧ decide (x + y ≤ 1048576) = true ∧ decide (0 ≤ z + u) = true ∧ decide (z + u ≤ 32768) = true) := by
        simp only [decide_eq_true_eq, decide_eq_false_iff_not]
        omega
      rcases hcase with d1 | ⟨d1, d2⟩ | ⟨d1, d2, d3⟩ | ⟨d1, d2, d3, d4⟩ | ⟨d1, d2, d3, d4⟩
      all_goals
        have R := HR.out
        simp only [d1, Bool.false_and, Bool.true_and] at R
        try simp only [d2, Bool.false_and, Bool.true_and] at R
        try simp only [d3, Bool.false_and, Bool.true_and] at R
        try simp only [d4] at R
        have R := Lib.hid R
        go_wp2_with fail
        go_quiet (fail)
        go_wp2_with fail
        go_ret
        exact ⟨by rw [R.out]; rfl, below_drewN BEL.out _⟩
end Go.Proofs.YtlpmbjgimllmgaaDoor

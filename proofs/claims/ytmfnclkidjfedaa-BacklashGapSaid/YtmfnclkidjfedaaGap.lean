/-
  BacklashGap and BacklashTable return true. Their arguments: any.
-/
import Derived.Test.YtmfnclkidjfedaaLaws28
namespace Go.Proofs.Ytmfnclkidjfedaa
open Go Go.RowKit
set_option linter.unusedVariables false

set_option maxRecDepth 100000 in
set_option maxHeartbeats 1000000 in
theorem gap_walk (a0 : Option Addr) (len0 cap0 : Nat) (z0 : List Int) (a1 a2 a3 : Int) (w : World) (hr : IsRow .i64 w a0 len0 cap0 z0) :
    Calls Try.prog 5 #[.slice a0 len0 cap0, .int .i64 a1, .int .i64 a2, .int .i64 a3] w fun e w' => e = .returned (.bool true) ∧ Below w.heap.size w w' := by
  go_enter Try.func5, Try.ntmps5
  go_wp2_with fail
  refine (awake_true _).mono ?_
  rintro e wa ⟨rfl, bela⟩
  go_wp2_with fail
  refine (axes_any wa _ _ _ z0 (hr.below bela)).mono ?_
  rintro e wb ⟨v1, v2, v3, rfl, g1, g2, g3, belb, own⟩
  have bel := bela.trans (belb.mono bela.size)
  clear bela belb own
  have i0 := fun W => axis0 v1 v2 v3 W
  simp only [AxisV.cells, List.append_toArray, List.cons_append, List.nil_append] at i0 ⊢
  by_cases h1 : nearB a1 = true
  · by_cases h2 : nearB a2 = true
    · by_cases h3 : nearB a3 = true
      · have n1 : -1099511627776 ≤ a1 ∧ a1 ≤ 1099511627776 := by simpa [nearB] using h1
        have n2 : -1099511627776 ≤ a2 ∧ a2 ≤ 1099511627776 := by simpa [nearB] using h2
        have n3 : -1099511627776 ≤ a3 ∧ a3 ≤ 1099511627776 := by simpa [nearB] using h3
        obtain ⟨b0, b1⟩ := g1.ba
        by_cases h4 : a2 < a1
        · go_wp2_with (go_at_call 10; refine (near_any _ _).mono ?_; rintro e w' ⟨rfl, rfl⟩)
          go_ret
          exact ⟨rfl, by repeat (first | exact bel | (refine Below.alloc ?_ (by have := bel.size; simp; omega) _) | refine Below.drew ?_)⟩
        · have t1 : tab v1.ba a1 a3 ≤ tab v1.ba a2 a3 := by unfold tab; omega
          have t3 : a3 ≤ tab v1.ba a1 a3 ∧ tab v1.ba a1 a3 ≤ a3 + v1.ba := by unfold tab; omega
          have t4 : a3 ≤ tab v1.ba a2 a3 ∧ tab v1.ba a2 a3 ≤ a3 + v1.ba := by unfold tab; omega
          obtain ⟨t3, t3'⟩ := t3
          obtain ⟨t4, t4'⟩ := t4
          have t2 : tab v1.ba a2 a3 - tab v1.ba a1 a3 ≤ a2 - a1 := by unfold tab; omega
          go_wp2_with (go_at_call 10; refine (near_any _ _).mono ?_; rintro e w' ⟨rfl, rfl⟩)
          go_region_held3 (fun w' => w'.cell? ⟨wb.heap.size, 0, none⟩ = some (.int .i64 v1.st) ∧ w'.cell? ⟨wb.heap.size, 1, none⟩ = some (.int .i64 v1.sp) ∧ w'.cell? ⟨wb.heap.size, 2, none⟩ = some (.int .i64 v1.ac) ∧ w'.cell? ⟨wb.heap.size, 3, none⟩ = some (.int .i64 v1.je) ∧ w'.cell? ⟨wb.heap.size, 4, none⟩ = some (.int .i64 (-16777216)) ∧ w'.cell? ⟨wb.heap.size, 5, none⟩ = some (.int .i64 16777216) ∧ w'.cell? ⟨wb.heap.size, 6, none⟩ = some (.int .i64 v1.ba) ∧ w'.cell? ⟨wb.heap.size, 7, none⟩ = some (.int .i64 v1.og) ∧ w'.cell? ⟨wb.heap.size, 8, none⟩ = some (.int .i64 v1.sg) ∧ w'.cell? ⟨wb.heap.size, 9, none⟩ = some (.slice v1.pa v1.pn v1.pc)) (simp [go_sem, World.cell?_alloc_past]) (first | (go_at_call 13; refine (table_any v1 g1 _ _ _ (by omega) (by omega) (by omega) (by omega)).mono ?_; rintro e w' ⟨rfl, rfl⟩))
          go_wp2_with fail
          go_ret
          exact ⟨rfl, by repeat (first | exact bel | (refine Below.alloc ?_ (by have := bel.size; simp; omega) _) | refine Below.drew ?_)⟩
      · have h3' : nearB a3 = false := by simpa using h3
        go_wp2_with (go_at_call 10; refine (near_any _ _).mono ?_; rintro e w' ⟨rfl, rfl⟩)
        go_ret
        exact ⟨rfl, by repeat (first | exact bel | (refine Below.alloc ?_ (by have := bel.size; simp; omega) _) | refine Below.drew ?_)⟩
    · have h2' : nearB a2 = false := by simpa using h2
      go_wp2_with (go_at_call 10; refine (near_any _ _).mono ?_; rintro e w' ⟨rfl, rfl⟩)
      go_ret
      exact ⟨rfl, by repeat (first | exact bel | (refine Below.alloc ?_ (by have := bel.size; simp; omega) _) | refine Below.drew ?_)⟩
  · have h1' : nearB a1 = false := by simpa using h1
    go_wp2_with (go_at_call 10; refine (near_any _ _).mono ?_; rintro e w' ⟨rfl, rfl⟩)
    go_ret
    exact ⟨rfl, by repeat (first | exact bel | (refine Below.alloc ?_ (by have := bel.size; simp; omega) _) | refine Below.drew ?_)⟩

set_option maxRecDepth 100000 in
set_option maxHeartbeats 1000000 in
theorem table_walk (a0 : Option Addr) (len0 cap0 : Nat) (z0 : List Int) (a1 a2 a3 : Int) (w : World) (hr : IsRow .i64 w a0 len0 cap0 z0) :
    Calls Try.prog 3 #[.slice a0 len0 cap0, .int .i64 a1, .int .i64 a2, .int .i64 a3] w fun e w' => e = .returned (.bool true) ∧ Below w.heap.size w w' := by
  go_enter Try.func3, Try.ntmps3
  go_wp2_with fail
  refine (awake_true _).mono ?_
  rintro e wa ⟨rfl, bela⟩
  go_wp2_with fail
  refine (axes_any wa _ _ _ z0 (hr.below bela)).mono ?_
  rintro e wb ⟨v1, v2, v3, rfl, g1, g2, g3, belb, own⟩
  have bel := bela.trans (belb.mono bela.size)
  clear bela belb own
  have i0 := fun W => axis0 v1 v2 v3 W
  simp only [AxisV.cells, List.append_toArray, List.cons_append, List.nil_append] at i0 ⊢
  by_cases h1 : nearB a1 = true
  · by_cases h2 : nearB a2 = true
    · have n1 : -1099511627776 ≤ a1 ∧ a1 ≤ 1099511627776 := by simpa [nearB] using h1
      have n2 : -1099511627776 ≤ a2 ∧ a2 ≤ 1099511627776 := by simpa [nearB] using h2
      have idx : ∀ k : Nat, k < 3 → ∃ d, ∀ W, (Instr.index 29 (.agg #[.int .i64 a3, .int .i64 1, .int .i64 (-1)]) (.int .i64 k)).run Try.prog W = .ok (.int .i64 d) W := by
        intro k hk
        have : k = 0 ∨ k = 1 ∨ k = 2 := by omega
        rcases this with rfl | rfl | rfl
        · exact ⟨a3, fun W => by kernel_rfl⟩
        · exact ⟨1, fun W => by kernel_rfl⟩
        · exact ⟨-1, fun W => by kernel_rfl⟩
      have IDX := Lib.hid idx
      clear idx
      go_wp2_with (go_at_call 10; refine (near_any _ _).mono ?_; rintro e w' ⟨rfl, rfl⟩)
      go_loopw [27] (fun v wr => ∃ k : Nat, k ≤ 3 ∧ v = .int .i64 k ∧ Below w.heap.size w wr ∧ Blk wr wb.heap.size 25 #[.int .i64 v1.st, .int .i64 v1.sp, .int .i64 v1.ac, .int .i64 v1.je, .int .i64 (-16777216), .int .i64 16777216, .int .i64 v1.ba, .int .i64 v1.og, .int .i64 v1.sg, .slice v1.pa v1.pn v1.pc]) (fun v _ => 3 - (intOf v).toNat)
      case atStart => exact ⟨0, by omega, rfl, by repeat (first | exact bel | (refine Below.alloc ?_ (by have := bel.size; simp; omega) _) | refine Below.drew ?_), Blk.new _ _ _⟩
      case round =>
        obtain ⟨k, hk, rfl, belr, hblk⟩ := hrel
        have hwb := bel.size
        by_cases hlt : k < 3
        · obtain ⟨d, hd⟩ := IDX.out k hlt
          have hblt := hblk.lt
          have e0 := hblk.cell 0
          have e1 := hblk.cell 1
          have e2 := hblk.cell 2
          have e3 := hblk.cell 3
          have e4 := hblk.cell 4
          have e5 := hblk.cell 5
          have e6 := hblk.cell 6
          have e7 := hblk.cell 7
          have e8 := hblk.cell 8
          have e9 := hblk.cell 9
          simp at e0 e1 e2 e3 e4 e5 e6 e7 e8 e9
          go_wp2_with fail
          go_region_held3 (fun w' => (w'.cell? ⟨wb.heap.size, 0, none⟩ = some (.int .i64 v1.st) ∧ w'.cell? ⟨wb.heap.size, 1, none⟩ = some (.int .i64 v1.sp) ∧ w'.cell? ⟨wb.heap.size, 2, none⟩ = some (.int .i64 v1.ac) ∧ w'.cell? ⟨wb.heap.size, 3, none⟩ = some (.int .i64 v1.je) ∧ w'.cell? ⟨wb.heap.size, 4, none⟩ = some (.int .i64 (-16777216)) ∧ w'.cell? ⟨wb.heap.size, 5, none⟩ = some (.int .i64 16777216) ∧ w'.cell? ⟨wb.heap.size, 6, none⟩ = some (.int .i64 v1.ba) ∧ w'.cell? ⟨wb.heap.size, 7, none⟩ = some (.int .i64 v1.og) ∧ w'.cell? ⟨wb.heap.size, 8, none⟩ = some (.int .i64 v1.sg) ∧ w'.cell? ⟨wb.heap.size, 9, none⟩ = some (.slice v1.pa v1.pn v1.pc)) ∧ wb.heap.size < w'.heap.size) (simp [go_sem, World.cell?_alloc_past, *]) (first | (go_at_call 11; refine (shift_any v1 g1 _ _).mono ?_; rintro e w' ⟨rfl, rfl⟩) | (go_at_call 12; refine (rshift_any v1 g1 _ _).mono ?_; rintro e w' ⟨rfl, rfl⟩))
          go_wp2_with fail
          go_roundw
          case rel => exact ⟨k + 1, hlt, by go_num, by repeat (first | exact belr | (refine Below.alloc ?_ (by have := belr.size; simp; omega) _) | refine Below.drew ?_), by first | exact ((hblk.alloc _).alloc _).drew | exact (((hblk.drew).alloc _).alloc _)⟩
          case measure => simp [intOf]; omega
        · obtain rfl : k = 3 := by omega
          have hblt := hblk.lt
          have e0 := hblk.cell 0
          have e1 := hblk.cell 1
          have e2 := hblk.cell 2
          have e3 := hblk.cell 3
          have e4 := hblk.cell 4
          have e5 := hblk.cell 5
          have e6 := hblk.cell 6
          have e7 := hblk.cell 7
          have e8 := hblk.cell 8
          have e9 := hblk.cell 9
          simp at e0 e1 e2 e3 e4 e5 e6 e7 e8 e9
          go_wp2_with fail
          go_region_held3 (fun w' => (w'.cell? ⟨wb.heap.size, 0, none⟩ = some (.int .i64 v1.st) ∧ w'.cell? ⟨wb.heap.size, 1, none⟩ = some (.int .i64 v1.sp) ∧ w'.cell? ⟨wb.heap.size, 2, none⟩ = some (.int .i64 v1.ac) ∧ w'.cell? ⟨wb.heap.size, 3, none⟩ = some (.int .i64 v1.je) ∧ w'.cell? ⟨wb.heap.size, 4, none⟩ = some (.int .i64 (-16777216)) ∧ w'.cell? ⟨wb.heap.size, 5, none⟩ = some (.int .i64 16777216) ∧ w'.cell? ⟨wb.heap.size, 6, none⟩ = some (.int .i64 v1.ba) ∧ w'.cell? ⟨wb.heap.size, 7, none⟩ = some (.int .i64 v1.og) ∧ w'.cell? ⟨wb.heap.size, 8, none⟩ = some (.int .i64 v1.sg) ∧ w'.cell? ⟨wb.heap.size, 9, none⟩ = some (.slice v1.pa v1.pn v1.pc)) ∧ wb.heap.size < w'.heap.size) (simp [go_sem, World.cell?_alloc_past, *]) (first | (go_at_call 13; refine (table_any v1 g1 _ _ _ (by omega) (by omega) (by omega) (by omega)).mono ?_; rintro e w' ⟨rfl, rfl⟩) | (go_at_call 14; refine (rtable_any v1 g1 _ _ _ (by omega) (by omega) (by omega) (by omega)).mono ?_; rintro e w' ⟨rfl, rfl⟩))
          go_wp2_with fail
          go_ret
          exact ⟨rfl, by repeat (first | exact belr | (refine Below.alloc ?_ (by have := belr.size; simp; omega) _) | refine Below.drew ?_)⟩
    · have h2' : nearB a2 = false := by simpa using h2
      go_wp2_with (go_at_call 10; refine (near_any _ _).mono ?_; rintro e w' ⟨rfl, rfl⟩)
      go_ret
      exact ⟨rfl, by repeat (first | exact bel | (refine Below.alloc ?_ (by have := bel.size; simp; omega) _) | refine Below.drew ?_)⟩
  · have h1' : nearB a1 = false := by simpa using h1
    go_wp2_with (go_at_call 10; refine (near_any _ _).mono ?_; rintro e w' ⟨rfl, rfl⟩)
    go_ret
    exact ⟨rfl, by repeat (first | exact bel | (refine Below.alloc ?_ (by have := bel.size; simp; omega) _) | refine Below.drew ?_)⟩
end Go.Proofs.Ytmfnclkidjfedaa

/-
  What output.Fired, cncref38.Fired and cnclaw38.same leave.
-/
import Derived.Test.YtbagekkgmemfcaaLaws38
import Derived.Laws.AppendOwnNone
import Derived.Test.YtbagekkgmemfcaaRowsInt
namespace Go.Proofs.Ytbagekkgmemfcaa
open Go Go.RowKit
set_option linter.unusedVariables false

structure MarkV where
  pos : Int
  kind : Int
  item : Int
/-- Marks that lie where a slice leads. -/
def Marks (w : World) (a : Option Addr) (n : Nat) (m : Nat → MarkV) : Prop := ∀ i, i < n → ∃ b o, a = some ⟨b, o, none⟩ ∧ b < w.heap.size ∧
  w.cell? ⟨b, o + i * 3, none⟩ = some (.int .i64 (m i).pos) ∧ w.cell? ⟨b, o + i * 3 + 1, none⟩ = some (.int .i64 (m i).kind) ∧ w.cell? ⟨b, o + i * 3 + 2, none⟩ = some (.int .i64 (m i).item)
theorem Marks.below {w w' : World} {a : Option Addr} {n : Nat} {m : Nat → MarkV} (h : Marks w a n m) (hb : Below w.heap.size w w') : Marks w' a n m := fun i hi => by
  obtain ⟨b, o, e, hl, h0, h1, h2⟩ := h i hi
  exact ⟨b, o, e, by have := hb.size; omega, (hb.cell hl).trans h0, (hb.cell hl).trans h1, (hb.cell hl).trans h2⟩
/-- The items of the outputs that are passed. -/
def fired (m : Nat → MarkV) (f t : Int) : Nat → List Int
  | 0 => []
  | k + 1 => fired m f t k ++ if (m k).kind = 5 ∧ f < (m k).pos ∧ (m k).pos ≤ t then [(m k).item] else []
theorem fired_len (m : Nat → MarkV) (f t : Int) : ∀ k, (fired m f t k).length ≤ k
  | 0 => by simp [fired]
  | k + 1 => by
    have := fired_len m f t k
    unfold fired
    split <;> simp <;> omega
theorem fired_out {m : Nat → MarkV} {f t : Int} {k : Nat} (h : ¬ ((m k).kind = 5 ∧ f < (m k).pos ∧ (m k).pos ≤ t)) : fired m f t (k + 1) = fired m f t k := by
  conv => lhs; unfold fired
  rw [if_neg h, List.append_nil]
theorem fired_in {m : Nat → MarkV} {f t : Int} {k : Nat} (h : (m k).kind = 5 ∧ f < (m k).pos ∧ (m k).pos ≤ t) : fired m f t (k + 1) = fired m f t k ++ [(m k).item] := by
  conv => lhs; unfold fired
  rw [if_pos h]

theorem fired_own {m : Nat → MarkV} {f t : Int} {k B T : Nat} {v : Value} {w : World} (h : (m k).kind = 5 ∧ f < (m k).pos ∧ (m k).pos ≤ t)
    (ho : w.ownsRow B T 1 v ((fired m f t k).length + 1) ((fired m f t k).map (Value.int .i64) ++ [.int .i64 (m k).item])) : w.ownsRow B T 1 v (fired m f t (k + 1)).length ((fired m f t (k + 1)).map (Value.int .i64)) := by
  rw [fired_in h]; simpa using ho
theorem infoInt : (Try.prog.info? 3).map (fun i => (i.zero, i.size, i.bytes)) = some (some (.int .i64 0), 1, 8) := by kernel_rfl

def FiredDone (w : World) (l : List Int) (e : Ending) (w' : World) : Prop :=
  ∃ v, e = .returned v ∧ w'.ownsRow w.heap.size 3 1 v l.length (l.map (Value.int .i64)) ∧ Below w.heap.size w w'

set_option maxHeartbeats 1000000 in
theorem fired_any (a : Option Addr) (n c : Nat) (m : Nat → MarkV) (f t : Int) (w : World) (hM : Marks w a n m) (hn : n ≤ 60) :
    Calls Try.prog 12 #[.slice a n c, .int .i64 f, .int .i64 t] w (FiredDone w (fired m f t n)) := by
  obtain ⟨i0, hi, hz0, hz1, hz2⟩ := info_parts infoInt
  go_enter Try.func12, Try.ntmps12
  go_wp2_with fail
  go_loopw [7, 12] (fun v7 v12 wr => ∃ k : Nat, k ≤ n ∧ v12 = .int .i64 k ∧ wr.ownsRow w.heap.size 3 1 v7 (fired m f t k).length ((fired m f t k).map (Value.int .i64)) ∧ Below w.heap.size w wr)
    (fun _ v12 _ => n - (intOf v12).toNat)
  case atStart => exact ⟨0, by omega, rfl, World.ownsRow_nil _ _ _ _, Below.refl _ _⟩
  case round =>
    obtain ⟨k, hk, rfl, hown, bel⟩ := hrel
    have hsz := bel.size
    by_cases hlt : k < n
    · obtain ⟨b, o, rfl, hbl, h0, h1, h2⟩ := hM k hlt
      have e0 := (bel.cell hbl).trans h0
      have e1 := (bel.cell hbl).trans h1
      have e2 := (bel.cell hbl).trans h2
      clear h0 h1 h2
      have hl := fired_len m f t k
      have next := fun h v (w1 : World) => @fired_own m f t k w.heap.size 3 v w1 h
      have skip := fun h => @fired_out m f t k h
      have four : ((m k).kind = 5 ∧ f < (m k).pos ∧ (m k).pos ≤ t) ∨ ((m k).kind ≠ 5) ∨ ((m k).kind = 5 ∧ ¬ f < (m k).pos) ∨ ((m k).kind = 5 ∧ f < (m k).pos ∧ ¬ (m k).pos ≤ t) := by omega
      generalize hp : (m k).pos = p at *
      generalize hq : (m k).kind = q at *
      generalize hr : (m k).item = r at *
      rcases four with h3 | h3
      · have nx := next h3
        obtain ⟨h4, h5, h6⟩ := h3
        subst h4
        have NX := Lib.hid nx
        clear next skip nx
        go_wp2_with (at_builtin; refine wpList_append_own _ rfl (.tmp 31) (.tmp 34) 38 rfl w.heap.size 3 i0 (.int .i64 0) 1 8 Try.underlying38 hi hz0 hz1 hz2 rfl (by decide) _ _ _ rfl ((hown.alloc _).alloc _) ⟨wr.heap.size + 1, 0, none⟩ 1 1 [.int .i64 r] rfl rfl (cell_one_at _ _ _ _ (by simp)) (by intro u hu; simp at hu; subst hu; rfl) (by unfold maxLen; omega) (by omega) (by simp; omega) ?_)
        intro v' w1 hown' hgrow _
        have own2 := NX.out v' w1 hown'
        have bel2 := ((bel.alloc hsz _).alloc (by simp; omega) _).trans (below_of_grown hgrow (by simp; omega) (fun j hj => (hown.lt j hj).1))
        clear hown' hgrow hown bel
        go_wp2_with fail
        go_roundw
        case rel => exact ⟨k + 1, hlt, by go_num, own2, bel2⟩
        case measure => simp [intOf]; omega
      · have sk := skip (by omega)
        rw [← sk] at hown
        have own2 := hown.alloc (.cells #[.int .i64 p, .int .i64 q, .int .i64 r] 36)
        have bel2 := bel.alloc hsz (.cells #[.int .i64 p, .int .i64 q, .int .i64 r] 36)
        clear next skip sk hown bel
        rcases h3 with h3 | ⟨h3, h4⟩ | ⟨h3, h4, h5⟩
        all_goals
          first | subst h3 | skip
          go_wp2_with fail
          go_roundw
          case rel => exact ⟨k + 1, hlt, by go_num, own2, bel2⟩
          case measure => simp [intOf]; omega
    · obtain rfl : k = n := by omega
      go_wp2_with fail
      go_ret
      exact ⟨_, rfl, hown, bel⟩
set_option maxHeartbeats 1000000 in
theorem rfired_any (a : Option Addr) (n c : Nat) (m : Nat → MarkV) (f t : Int) (w : World) (hM : Marks w a n m) (hn : n ≤ 60) :
    Calls Try.prog 13 #[.slice a n c, .int .i64 f, .int .i64 t] w (FiredDone w (fired m f t n)) := by
  obtain ⟨i0, hi, hz0, hz1, hz2⟩ := info_parts infoInt
  go_enter Try.func13, Try.ntmps13
  go_wp2_with fail
  go_loopw [7, 12] (fun v7 v12 wr => ∃ k : Nat, k ≤ n ∧ v12 = .int .i64 k ∧ wr.ownsRow w.heap.size 3 1 v7 (fired m f t k).length ((fired m f t k).map (Value.int .i64)) ∧ Below w.heap.size w wr)
    (fun _ v12 _ => n - (intOf v12).toNat)
  case atStart => exact ⟨0, by omega, rfl, World.ownsRow_nil _ _ _ _, Below.refl _ _⟩
  case round =>
    obtain ⟨k, hk, rfl, hown, bel⟩ := hrel
    have hsz := bel.size
    by_cases hlt : k < n
    · obtain ⟨b, o, rfl, hbl, h0, h1, h2⟩ := hM k hlt
      have e0 := (bel.cell hbl).trans h0
      have e1 := (bel.cell hbl).trans h1
      have e2 := (bel.cell hbl).trans h2
      clear h0 h1 h2
      have hl := fired_len m f t k
      have next := fun h v (w1 : World) => @fired_own m f t k w.heap.size 3 v w1 h
      have skip := fun h => @fired_out m f t k h
      have four : ((m k).kind = 5 ∧ f < (m k).pos ∧ (m k).pos ≤ t) ∨ ((m k).kind ≠ 5) ∨ ((m k).kind = 5 ∧ ¬ f < (m k).pos) ∨ ((m k).kind = 5 ∧ f < (m k).pos ∧ ¬ (m k).pos ≤ t) := by omega
      generalize hp : (m k).pos = p at *
      generalize hq : (m k).kind = q at *
      generalize hr : (m k).item = r at *
      rcases four with h3 | h3
      · have nx := next h3
        obtain ⟨h4, h5, h6⟩ := h3
        subst h4
        have NX := Lib.hid nx
        clear next skip nx
        go_wp2_with (at_builtin; refine wpList_append_own _ rfl (.tmp 31) (.tmp 34) 38 rfl w.heap.size 3 i0 (.int .i64 0) 1 8 Try.underlying38 hi hz0 hz1 hz2 rfl (by decide) _ _ _ rfl ((hown.alloc _).alloc _) ⟨wr.heap.size + 1, 0, none⟩ 1 1 [.int .i64 r] rfl rfl (cell_one_at _ _ _ _ (by simp)) (by intro u hu; simp at hu; subst hu; rfl) (by unfold maxLen; omega) (by omega) (by simp; omega) ?_)
        intro v' w1 hown' hgrow _
        have own2 := NX.out v' w1 hown'
        have bel2 := ((bel.alloc hsz _).alloc (by simp; omega) _).trans (below_of_grown hgrow (by simp; omega) (fun j hj => (hown.lt j hj).1))
        clear hown' hgrow hown bel
        go_wp2_with fail
        go_roundw
        case rel => exact ⟨k + 1, hlt, by go_num, own2, bel2⟩
        case measure => simp [intOf]; omega
      · have sk := skip (by omega)
        rw [← sk] at hown
        have own2 := hown.alloc (.cells #[.int .i64 p, .int .i64 q, .int .i64 r] 36)
        have bel2 := bel.alloc hsz (.cells #[.int .i64 p, .int .i64 q, .int .i64 r] 36)
        clear next skip sk hown bel
        rcases h3 with h3 | ⟨h3, h4⟩ | ⟨h3, h4, h5⟩
        all_goals
          first | subst h3 | skip
          go_wp2_with fail
          go_roundw
          case rel => exact ⟨k + 1, hlt, by go_num, own2, bel2⟩
          case measure => simp [intOf]; omega
    · obtain rfl : k = n := by omega
      go_wp2_with fail
      go_ret
      exact ⟨_, rfl, hown, bel⟩

set_option maxHeartbeats 1000000 in
theorem same_any (a a' : Option Addr) (n c c' : Nat) (z : Nat → Int) (w : World) (h1 : IntsAt w a n z) (h2 : IntsAt w a' n z) (hn : n ≤ 1000000) :
    Calls Try.prog 11 #[.slice a n c, .slice a' n c'] w fun e w' => e = .returned (.bool true) ∧ ∃ q, w' = w.drewN q := by
  go_enter Try.func11, Try.ntmps11
  go_wp2_with fail
  go_loopw [13] (fun v13 wr => ∃ k q : Nat, k ≤ n ∧ v13 = .int .i64 k ∧ wr = w.drewN q)
    (fun v13 _ => n - (intOf v13).toNat)
  case atStart => exact ⟨0, 0, by omega, rfl, rfl⟩
  case round =>
    obtain ⟨k, q, hk, rfl, rfl⟩ := hrel
    by_cases hlt : k < n
    · obtain ⟨b, o, rfl, hbl, e1⟩ := h1 k hlt
      obtain ⟨b', o', rfl, hbl', e2⟩ := h2 k hlt
      have i1 : (0 : Int) ≤ (k : Int) := by omega
      have i2 : (k : Int) < (n : Int) := by omega
      go_wp2_with fail
      go_quiet (fail)
      go_wp2_with fail
      go_roundw
      case rel => exact ⟨k + 1, _, hlt, by go_num, rfl⟩
      case measure => simp [intOf]; omega
    · obtain rfl : k = n := by omega
      go_wp2_with fail
      go_ret
      exact ⟨rfl, _, rfl⟩
end Go.Proofs.Ytbagekkgmemfcaa

/-
  slices.Clone of levels; vars.Store: Copy. Stores of 1 to 9 levels.
-/
import Derived.Test.YtdbhkpkndfhcoaaDoorPop07
import Derived.Laws.Cover3
namespace Go.Proofs.YtdbhkpkndfhcoaaDoor
open Go Go.RowKit
set_option linter.unusedVariables false

theorem eql_nil (a : Addr) (n cap : Nat) (W : World) : (binOp .eql 56 (.slice (some a) n cap) (.slice none 0 0)).run Tryd.prog W = .ok (.bool false) W := by
  simp only [binOp]
  simp [run_equal_slice_nil W _ _ _ _ _ Tryd.underlying56]
set_option maxRecDepth 100000 in
theorem clone_any (base g cap n : Nat) (V : List Int) (w : World) (h : w.ownsRow base 50 33 (.slice (some ⟨g, 0, none⟩) n cap) n (V.map (Value.int .i64))) (h1 : 1 ≤ n) (h9 : n ≤ 9) :
    Calls Tryd.prog 38 #[.slice (some ⟨g, 0, none⟩) n cap] w fun e w' => ∃ g' c', e = .returned (.slice (some ⟨g', 0, none⟩) n c') ∧ w'.ownsRow w.heap.size 50 33 (.slice (some ⟨g', 0, none⟩) n c') n (V.map (Value.int .i64)) ∧ Below w.heap.size w w' := by
  obtain ⟨i0, hi, hz0, hz1, hz2⟩ := info_parts infoLevel
  have heq := fun W => eql_nil ⟨g, 0, none⟩ n cap W
  go_enter Tryd.func38, Tryd.ntmps38
  have hnil := World.ownsRow_made (base := w.heap.size) (e := 50) (size := 33) w #[] 0 (Nat.le_refl _) (by decide) (by simp)
  have hlen : V.length = n * 33 := by have := h.1; simpa using this
  go_wp2_with (first
    | (at_builtin; refine wpList_append_lies _ rfl (.tmp 5) (.tmp 6) 56 rfl w.heap.size 50 i0 (.agg (List.replicate 33 (Value.int .i64 0)).toArray) 33 264 Tryd.underlying56 hi hz0 hz1 hz2 (by kernel_rfl) (by decide) (.slice (some ⟨w.heap.size, 0, none⟩) 0 0) 0 [] rfl hnil ⟨g, 0, none⟩ n cap (V.map (Value.int .i64)) rfl (by rw [List.length_map, hlen]) ((h.alloc _).cells rfl) (by intro u hu'; obtain ⟨z, _, rfl⟩ := List.mem_map.1 hu'; rfl) (by omega) (by unfold maxLen; omega) (by omega) (by simp) (w.heap.size + 1) (by simp) ?_; intro g' c' w1 hown' hgrow hat hlt'))
  go_ret
  refine ⟨g', c', rfl, ?_, ((Below.refl w.heap.size w).alloc (Nat.le_refl _) _).grown hgrow (by simp) (fun k e => by have e' : some w.heap.size = some k := e; exact Nat.le_of_eq (Option.some.inj e'))⟩
  rw [Nat.zero_add, List.nil_append] at hown'
  exact hown'

theorem infoStore : (Tryd.prog.info? 60).map (fun i => (i.zero, i.size, i.bytes)) = some (some (.agg (stC (.slice none 0 0) fun _ => 0)), 1101, 8824) := by kernel_rfl
theorem stC_one (a : Option Addr) (n cap : Nat) (C : Nat → Int) : (stC (.slice a n cap) C).all (·.oneCell') = true := by
  rw [Array.all_eq_true']
  intro x hx
  simp [stC] at hx
  rcases hx with rfl | ⟨i, _, rfl⟩ <;> rfl
theorem zeroStore (W : World) : (zeroValue 60).run Tryd.prog W = .ok (.agg (stC (.slice none 0 0) fun _ => 0)) W := by
  obtain ⟨i0, hi, hz0, hz1, hz2⟩ := info_parts infoStore
  simp [zeroValue, typeInfo, hi, hz0]
attribute [local go_sem ↓] zeroStore
set_option maxRecDepth 100000 in
set_option maxHeartbeats 1000000 in
theorem copy_any {base s g cap n : Nat} {V : List Int} {C : Nat → Int} (w : World) (h : StAt w base s g cap n V C) :
    Calls Tryd.prog 26 #[.pointer (some ⟨s, 0, none⟩)] w fun e w' => ∃ s' g' c', e = .returned (.pointer (some ⟨s', 0, none⟩)) ∧ StAt w' w.heap.size s' g' c' n V C ∧ Below w.heap.size w w' := by
  have c0 := (h.1.cell 0).trans (stC_zero _ _)
  go_enter Tryd.func26, Tryd.ntmps26
  go_wp2_with (first
    | ((with_reducible refine go_load_row 60 (.tmp 5) s 60 (stC (.slice (some ⟨g, 0, none⟩) n cap) C) _ (by with_unfolding_all rfl) (by with_unfolding_all exact h.1) Tryd.underlying60 (by with_unfolding_all rfl) (by rw [stC_size]; with_unfolding_all kernel_rfl) ?_))
    | ((with_reducible refine go_store_row 60 (.tmp 3) (.tmp 6) w.heap.size (stC (.slice (some ⟨g, 0, none⟩) n cap) C) 60 (stC (.slice none 0 0) fun _ => 0) (by with_unfolding_all rfl) (by with_unfolding_all rfl) (by with_unfolding_all exact Blk.new w _ _) (by rw [stC_size]; with_unfolding_all kernel_rfl) (by rw [stC_size, stC_size]) (stC_one _ _ _ _) ?_); refine on_told (fun w' => w.grownBy w' none ∧ Blk w' w.heap.size 60 (stC (.slice (some ⟨g, 0, none⟩) n cap) C)) ⟨grown_setRow (grown_alloc (grown_refl w none) _) (.inr (Nat.le_refl _)) _, (Blk.new w _ _).setRow _⟩ ?_; rintro w1 ⟨g1, b1⟩; have h1 := h.below (below_of_grown0 g1); have c1 := (h1.1.cell 0).trans (stC_zero _ _)))
  refine (clone_any base g cap n V w1 h1.2.1 h.2.2.2.2.1 h.2.2.2.2.2).mono ?_
  rintro e w2 ⟨g', c', rfl, hown, bel⟩
  have b2 := b1.below bel b1.lt
  have q0 := (b2.cell 0).trans (stC_zero _ _)
  have f0 := b2.frozen 0
  have hs1 := g1.size
  have hs2 := b1.lt
  have fin := b2.put 0 (.slice (some ⟨g', 0, none⟩) n c')
  rw [stC_lv] at fin
  have hg' := hown.lt g' rfl
  have hon := (own_base hown (show w.heap.size ≤ w1.heap.size by omega)).kept (grown_setCell (p := ⟨w.heap.size, 0, none⟩) (grown_refl w2 (some w.heap.size)) (.inl rfl) (.slice (some ⟨g', 0, none⟩) n c')) (.inr fun e => by have e' : some g' = some w.heap.size := e; have := Option.some.inj e'; omega)
  have hb := ((below_of_grown0 g1).trans (bel.mono (show w.heap.size ≤ w1.heap.size by omega))).setCell (p := ⟨w.heap.size, 0, none⟩) (Nat.le_refl _) (.slice (some ⟨g', 0, none⟩) n c')
  clear bel b2 g1 b1 h1 hown
  go_wp2_with fail
  go_ret
  exact ⟨w.heap.size, g', c', rfl, ⟨fin, hon, by omega, Nat.le_refl _, h.2.2.2.2.1, h.2.2.2.2.2⟩, hb⟩
end Go.Proofs.YtdbhkpkndfhcoaaDoor

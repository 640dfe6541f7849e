/-
  cncref07.Store: Pop. Stores of 1 to 9 levels.
-/
import Derived.Test.YtdbhkpkndfhcoaaDoorCopy07
namespace Go.Proofs.YtdbhkpkndfhcoaaDoor
open Go Go.RowKit
set_option linter.unusedVariables false

set_option maxRecDepth 100000 in
set_option maxHeartbeats 1000000 in
theorem rpop_any {base s g cap n : Nat} {V : List Int} {C : Nat → Int} (w : World) (h : RAt w base s g cap n V C) :
    Calls Tryd.prog 37 #[.pointer (some ⟨s, 0, none⟩)] w fun e w' => Only s g w w' ∧ (n = 1 → e = .returned (.int .i64 13) ∧ RAt w' base s g cap n V C) ∧
      (1 < n → e = .returned (.int .i64 0) ∧ ∃ g' c', w.heap.size ≤ g' ∧ RAt w' base s g' c' (n - 1) (V.take ((n - 1) * 33)) C) := by
  have K := Lib.hid (rlevel_any base s g cap n V C w h)
  have hn := h.2.2.2.2
  by_cases h1 : n = 1
  · subst h1
    go_enter Tryd.func37, Tryd.ntmps37
    go_wp2_with fail
    refine K.out.mono ?_
    rintro e w' ⟨rfl, rfl⟩
    go_wp2_with fail
    go_ret
    exact ⟨Only.refl _ _ _, fun _ => ⟨rfl, h⟩, fun h => by omega⟩
  · have d1 : ((n : Int) - 1 == 0) = false := by simp; omega
    obtain ⟨hn1, hn9⟩ := hn
    have i0 : (0 : Int) ≤ (n : Int) - 1 := by omega
    have i00 : (1 : Int) ≤ (n : Int) := by omega
    have hcap : n ≤ cap := by
      rcases h.2.1.2 with ⟨e, _⟩ | ⟨g', cap', cur, e, _, _, hc, _⟩
      · simp at e
      · injection e with _ _ e; omega
    have i1 : (n : Int) - 1 ≤ (cap : Int) := by omega
    have i2 : ((n : Int) - 1).toNat = n - 1 := by omega
    have hw : IntKind.i64.wrap ((n : Int) - 1) = (n : Int) - 1 := by rw [IntKind.wrap_i64]; omega
    have c0 := (h.1.cell 0).trans (stC_zero _ _)
    have hsl := h.1.lt
    have hbg := h.baseg
    obtain ⟨j0, hi, hz0, hz1, hz2⟩ := info_parts rinfoLevel
    have hnil := World.ownsRow_made (base := w.heap.size) (e := 71) (size := 33) w.drew #[] 0 (Nat.le_refl _) (by decide) (by simp)
    have hdrop := own_take h.2.1.drew (show n - 1 ≤ n by omega)
    rw [← List.map_take] at hdrop
    have hlen : (V.take ((n - 1) * 33)).length = (n - 1) * 33 := by rw [List.length_take, h.len]; omega
    go_enter Tryd.func37, Tryd.ntmps37
    go_wp2_with fail
    refine K.out.mono ?_
    rintro e w' ⟨rfl, rfl⟩
    go_wp2_with fail
    have hS0 : w.drew.cell? ⟨s, 0, none⟩ = some (.slice (some ⟨g, 0, none⟩) n cap) := c0
    refine region_E (fun w' => w'.cell? ⟨s, 0, none⟩ = some (.slice (some ⟨g, 0, none⟩) n cap)) 16 (by kernel_rfl) ?_
    refine take_E 0 (v := .pointer (some ⟨s, 0, none⟩)) rfl (by kernel_rfl) (by kernel_rfl) (by kernel_rfl) (by kernel_rfl) (fun _ _ _ h => h) rfl (fun W' hW' => by go_simp) hS0 ?_
    refine take_E 2 (v := .pointer (some ⟨s, 0, none⟩)) rfl (by kernel_rfl) (by kernel_rfl) (by kernel_rfl) (by kernel_rfl) (fun _ _ _ h => h) rfl (fun W' hW' => by go_simp) hS0 ?_
    refine take_E 3 (v := .pointer (some ⟨s, 0, none⟩)) rfl (by kernel_rfl) (by kernel_rfl) (by kernel_rfl) (by kernel_rfl) (fun _ _ _ h => h) rfl (fun W' hW' => by go_simp) hS0 ?_
    refine take_E 4 (v := .pointer (some ⟨s, 0, none⟩)) rfl (by kernel_rfl) (by kernel_rfl) (by kernel_rfl) (by kernel_rfl) (fun _ _ _ h => h) rfl (fun W' hW' => by go_simp) hS0 ?_
    refine take_E 5 (v := (.slice (some ⟨g, 0, none⟩) n cap)) rfl (by kernel_rfl) (by kernel_rfl) (by kernel_rfl) (by kernel_rfl) (fun _ _ _ h => h) rfl (fun W' hW' => by have e0 := hW'; go_simp) hS0 ?_
    refine take_E 6 (v := .pointer (some ⟨s, 0, none⟩)) rfl (by kernel_rfl) (by kernel_rfl) (by kernel_rfl) (by kernel_rfl) (fun _ _ _ h => h) rfl (fun W' hW' => by go_simp) hS0 ?_
    refine take_E 7 (v := .pointer (some ⟨s, 0, none⟩)) rfl (by kernel_rfl) (by kernel_rfl) (by kernel_rfl) (by kernel_rfl) (fun _ _ _ h => h) rfl (fun W' hW' => by go_simp) hS0 ?_
    refine take_E 8 (v := .pointer (some ⟨s, 0, none⟩)) rfl (by kernel_rfl) (by kernel_rfl) (by kernel_rfl) (by kernel_rfl) (fun _ _ _ h => h) rfl (fun W' hW' => by go_simp) hS0 ?_
    refine take_E 9 (v := (.slice (some ⟨g, 0, none⟩) n cap)) rfl (by kernel_rfl) (by kernel_rfl) (by kernel_rfl) (by kernel_rfl) (fun _ _ _ h => h) rfl (fun W' hW' => by have e0 := hW'; go_simp) hS0 ?_
    refine take_E 10 (v := .int .i64 n) rfl (by kernel_rfl) (by kernel_rfl) (by kernel_rfl) (by kernel_rfl) (fun _ _ _ h => h) rfl (fun W' hW' => by go_simp) hS0 ?_
    refine take_E 11 (v := .int .i64 ((n : Int) - 1)) rfl (by kernel_rfl) (by kernel_rfl) (by kernel_rfl) (by kernel_rfl) (fun _ _ _ h => h) rfl (fun W' hW' => by go_simp) hS0 ?_
    refine take_E 12 (v := (.slice (some ⟨g, 0, none⟩) (n - 1) cap)) rfl (by kernel_rfl) (by kernel_rfl) (by kernel_rfl) (by kernel_rfl) (fun _ _ _ h => h) rfl (fun W' hW' => by go_simp) hS0 ?_
    have kA := (h.1.drew.alloc (.cells #[] 71))
    have cA := (kA.cell 0).trans (stC_zero _ _)
    refine one_E 1 (by kernel_rfl) rfl rfl fun K1 hK1 => ?_
    have HK1 := Lib.hid hK1
    clear hK1
    go_simp
    refine HK1.out _ _ (fun _ => cA) ?_
    refine one_E 13 (by kernel_rfl) rfl rfl fun K13 hK13 => ?_
    refine wp_append_lies _ (.tmp 7) (.tmp 18) 65 rfl w.heap.size 71 j0 (.agg (List.replicate 33 (Value.int .i64 0)).toArray) 33 264 Tryd.underlying65 hi hz0 hz1 hz2 (by kernel_rfl) (by decide) (.slice (some ⟨w.heap.size, 0, none⟩) 0 0) 0 [] (by with_unfolding_all rfl) hnil ⟨g, 0, none⟩ (n - 1) cap ((V.take ((n - 1) * 33)).map (Value.int .i64)) (by with_unfolding_all rfl) (by rw [List.length_map, hlen]) ((hdrop.alloc _).cells rfl) (by intro u hu'; obtain ⟨z, _, rfl⟩ := List.mem_map.1 hu'; rfl) (by omega) (by unfold maxLen; omega) (by omega) (by simp) (w.heap.size + 1) (by simp) ?_
    intro g' c' w1 hown' hgrow hat hlt'
    rw [Nat.zero_add, List.nil_append] at hown'
    rw [Nat.zero_add]
    have kb1 := kA.grown hgrow (fun e => by have e' : some s = some w.heap.size := e; have := Option.some.inj e'; omega)
    have c1 := (kb1.cell 0).trans (stC_zero _ _)
    have f1 := kb1.frozen 0
    refine hK13 _ _ (fun _ => c1) ?_
    refine one_E 14 (by kernel_rfl) rfl rfl fun K14 hK14 => ?_
    have HK14 := Lib.hid hK14
    clear hK14
    go_simp
    refine HK14.out _ _ (fun _ => c1) ?_
    refine one_E 15 (by kernel_rfl) rfl rfl fun K15 hK15 => ?_
    have HK15 := Lib.hid hK15
    clear hK15
    go_simp
    refine HK15.out _ _ (fun _ => c1) ?_
    refine one_E 16 (by kernel_rfl) rfl rfl fun K16 hK16 => ?_
    have HK16 := Lib.hid hK16
    clear hK16
    go_simp
    refine HK16.out _ _ (fun x => absurd rfl x) ?_
    refine done_E (by kernel_rfl) ?_ _
    have kst := kb1.put 0 (.slice (some ⟨g', 0, none⟩) (n - 1) c')
    rw [stC_lv] at kst
    have hg' := hown'.lt g' rfl
    have hon := (own_base hown' (show base ≤ w.heap.size by omega)).kept (grown_setCell (p := ⟨s, 0, none⟩) (grown_refl w1 (some s)) (.inl rfl) (.slice (some ⟨g', 0, none⟩) (n - 1) c')) (.inr fun e => by have e' : some g' = some s := e; have := Option.some.inj e'; omega)
    have hst : RAt (w1.setCell ⟨s, 0, none⟩ (.slice (some ⟨g', 0, none⟩) (n - 1) c')) base s g' c' (n - 1) (V.take ((n - 1) * 33)) C := ⟨kst, hon, by omega, h.2.2.2.1, by omega, by omega⟩
    have honly : Only s g w (w1.setCell ⟨s, 0, none⟩ (.slice (some ⟨g', 0, none⟩) (n - 1) c')) := by
      refine ⟨hgrow.os, hgrow.tape, hgrow.output, ?_, fun b hb h1 h2 => ?_⟩
      · have := hgrow.size; simp [World.setCell] at *; omega
      · rw [Below.heap_setCell _ _ _ b (fun e => h1 e)]
        refine (hgrow.block b (by simp; omega) (fun e => by have e' : some b = some w.heap.size := e; have := Option.some.inj e'; omega)).trans ?_
        exact Below.heap_alloc _ _ b (by simpa using hb)
    clear hgrow hown' kb1 kA cA hnil hdrop
    go_simp
    go_wp2_with fail
    go_ret
    exact ⟨honly, fun h => absurd h h1, fun _ => ⟨rfl, g', c', hg'.1, hst⟩⟩
end Go.Proofs.YtdbhkpkndfhcoaaDoor

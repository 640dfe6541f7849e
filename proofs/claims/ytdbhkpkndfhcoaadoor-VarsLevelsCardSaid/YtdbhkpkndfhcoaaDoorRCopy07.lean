/-
  cncref07.Store: Copy. Stores of 1 to 9 levels.
-/
import Derived.Test.YtdbhkpkndfhcoaaDoorActs07
import Derived.Test.YtdbhkpkndfhcoaaDoorCopy07
import Derived.Great.FillDense
namespace Go.Proofs.YtdbhkpkndfhcoaaDoor
open Go Go.RowKit
set_option linter.unusedVariables false

def rowA (C : Nat → Int) : List Value := (List.range 100).map fun i => .int .i64 (C i)
def rowB (C : Nat → Int) : List Value := (List.range 1000).map fun i => .int .i64 (C (100 + i))
theorem rowA_at {W : World} {s : Nat} {t : TypeId} {lv : Value} {C : Nat → Int} (h : Blk W s t (stC lv C)) : W.rangeAt s 1 (rowA C) := by
  intro k x hx
  rw [rowA, List.getElem?_map, Option.map_eq_some_iff] at hx
  obtain ⟨i, hi, rfl⟩ := hx
  have hk : k < 100 := by simpa using (List.getElem?_eq_some_iff.1 hi).1
  obtain rfl : k = i := by simpa [hk] using hi
  rw [Nat.add_comm]
  exact (h.cell (k + 1)).trans (stC_at _ _ (by omega))
theorem rowB_at {W : World} {s : Nat} {t : TypeId} {lv : Value} {C : Nat → Int} (h : Blk W s t (stC lv C)) : W.rangeAt s 101 (rowB C) := by
  intro k x hx
  rw [rowB, List.getElem?_map, Option.map_eq_some_iff] at hx
  obtain ⟨i, hi, rfl⟩ := hx
  have hk : k < 1000 := by simpa using (List.getElem?_eq_some_iff.1 hi).1
  obtain rfl : k = i := by simpa [hk] using hi
  rw [show 101 + k = (100 + k) + 1 by omega]
  exact (h.cell (100 + k + 1)).trans (stC_at _ _ (by omega))
theorem fill_cons (place : Nat → Option (Nat × Nat)) (cells : Array Value) (i : Nat) (v : Value) (rest : List (Nat × Value)) (off : Nat) (hp : place i = some (off, v.cells.size)) (hle : off + v.cells.size ≤ cells.size) :
    ∃ cs, Instr.fill place cells ((i, v) :: rest) = Instr.fill place cs rest ∧ cs.size = cells.size ∧ ∀ k, cs[k]? = if off ≤ k ∧ k < off + v.cells.size then v.cells[k - off]? else cells[k]? := by
  obtain ⟨g1, g2⟩ := Go.Great.foldl_set off v.cells.toList 0 cells
  refine ⟨_, ?_, g1, fun k => ?_⟩
  · rw [Instr.fill, hp]
    simp only
    rw [if_neg (by simp; omega)]
    congr 1
    rw [← Array.foldl_toList, Array.toList_zipIdx]
  · rw [g2 k]
    simp only [Nat.add_zero, Array.length_toList]
    by_cases h : off ≤ k ∧ k < off + v.cells.size
    · rw [if_pos ⟨h.1, h.2, by omega⟩, if_pos h, Array.getElem?_toList]
    · rw [if_neg (fun x => h ⟨x.1, x.2.1⟩), if_neg h]
theorem rinfoStore : (Tryd.prog.info? 67).map (fun i => (i.zero, i.size, i.bytes)) = some (some (.agg (stC (.slice none 0 0) fun _ => 0)), 1101, 8824) := by kernel_rfl
theorem rplaces : ∃ fs, Tryd.prog.underlying 67 = some (.struct fs) ∧ fs.toList.mapM (fun f => (Tryd.prog.info? f.type).map fun i => (f.offset, i.size)) = some [(0, 1), (1, 100), (101, 1000)] := ⟨_, Tryd.underlying67, by kernel_rfl⟩
theorem rowA_size (C : Nat → Int) : (Value.agg (rowA C).toArray).cells.size = 100 := by simp [Value.cells, rowA]
theorem rowB_size (C : Nat → Int) : (Value.agg (rowB C).toArray).cells.size = 1000 := by simp [Value.cells, rowB]
theorem rcopy_built (g n cap : Nat) (C : Nat → Int) : Tryd.prog.built 67 [(0, .slice (some ⟨g, 0, none⟩) n cap), (1, .agg (rowA C).toArray), (2, .agg (rowB C).toArray)] = some (stC (.slice (some ⟨g, 0, none⟩) n cap) C) := by
  obtain ⟨it, hit, hz, _, _⟩ := info_parts rinfoStore
  obtain ⟨fs, hu, hp⟩ := rplaces
  unfold Program.built
  rw [hit, hu]
  simp only [hz, hp]
  have hz0 : (Value.agg (stC (.slice none 0 0) fun _ => 0)).cells = stC (.slice none 0 0) fun _ => 0 := rfl
  rw [hz0]
  have z0 : (Value.slice (some ⟨g, 0, none⟩) n cap).cells.size = 1 := rfl
  obtain ⟨c1, e1, s1, k1⟩ := fill_cons (fun x => [(0, 1), (1, 100), (101, 1000)].toArray[x]?) (stC (.slice none 0 0) fun _ => 0) 0 (.slice (some ⟨g, 0, none⟩) n cap) [(1, .agg (rowA C).toArray), (2, .agg (rowB C).toArray)] 0 rfl (by rw [stC_size, z0]; omega)
  rw [stC_size] at s1
  obtain ⟨c2, e2, s2, k2⟩ := fill_cons (fun x => [(0, 1), (1, 100), (101, 1000)].toArray[x]?) c1 1 (.agg (rowA C).toArray) [(2, .agg (rowB C).toArray)] 1 (by rw [rowA_size]; rfl) (by rw [rowA_size, s1]; omega)
  obtain ⟨c3, e3, s3, k3⟩ := fill_cons (fun x => [(0, 1), (1, 100), (101, 1000)].toArray[x]?) c2 2 (.agg (rowB C).toArray) [] 101 (by rw [rowB_size]; rfl) (by rw [rowB_size, s2, s1]; omega)
  rw [e1, e2, e3]
  rw [Instr.fill]
  refine congrArg some ?_
  apply Array.ext_getElem?
  intro k
  rw [k3 k, k2 k, k1 k, rowA_size, rowB_size, z0]
  rcases k with _ | k
  · rw [if_neg (by omega), if_neg (by omega), if_pos (by omega), stC_zero]; rfl
  · by_cases h1 : k < 100
    · rw [if_neg (by omega), if_pos (by omega), stC_at _ _ (by omega)]
      simp [Value.cells, rowA, h1]
    · by_cases h2 : k < 1100
      · rw [if_pos (by omega), stC_at _ _ h2]
        have h3 : k + 1 - 101 < 1000 := by omega
        simp only [Value.cells, rowB, List.getElem?_toArray, List.getElem?_map, List.getElem?_range h3, Option.map_some]
        rw [show 100 + (k + 1 - 101) = k by omega]
      · rw [if_neg (by omega), if_neg (by omega), if_neg (by omega), Array.getElem?_eq_none (by rw [stC_size]; omega), Array.getElem?_eq_none (by rw [stC_size]; omega)]

set_option maxRecDepth 100000 in
set_option maxHeartbeats 1000000 in
theorem rcopy_any {base s g cap n : Nat} {V : List Int} {C : Nat → Int} (w : World) (h : RAt w base s g cap n V C) :
    Calls Tryd.prog 27 #[.pointer (some ⟨s, 0, none⟩)] w fun e w' => ∃ s' g' c', e = .returned (.pointer (some ⟨s', 0, none⟩)) ∧ RAt w' w.heap.size s' g' c' n V C ∧ Below w.heap.size w w' := by
  obtain ⟨j0, hi, hz0, hz1, hz2⟩ := info_parts rinfoLevel
  have hnil := World.ownsRow_made (base := w.heap.size) (e := 71) (size := 33) w.drew #[] 0 (Nat.le_refl _) (by decide) (by simp)
  have hn1 := h.2.2.2.2.1
  have hn9 := h.2.2.2.2.2
  have hsl := h.1.lt
  have hbg := h.baseg
  have hlen := h.len
  have hown0 := h.2.1
  go_enter Tryd.func27, Tryd.ntmps27
  go_wp2_with fail
  refine wp_region_held_drew (S := fun w' => Blk w' s 67 (stC (.slice (some ⟨g, 0, none⟩) n cap) C)) (by kernel_rfl) h.1.drew fun hS0 => ?_
  refine take_first 1 (v := .pointer (some ⟨s, 0, none⟩)) rfl (by kernel_rfl) (by kernel_rfl) (by kernel_rfl) (fun _ _ _ h => h) rfl (fun W' hW' => by go_simp) hS0 ?_
  refine take_first 2 (v := .pointer (some ⟨s, 0, none⟩)) rfl (by kernel_rfl) (by kernel_rfl) (by kernel_rfl) (fun _ _ _ h => h) rfl (fun W' hW' => by go_simp) hS0 ?_
  refine take_first 3 (v := .pointer (some ⟨s, 0, none⟩)) rfl (by kernel_rfl) (by kernel_rfl) (by kernel_rfl) (fun _ _ _ h => h) rfl (fun W' hW' => by go_simp) hS0 ?_
  refine take_first 4 (v := (.slice (some ⟨g, 0, none⟩) n cap)) rfl (by kernel_rfl) (by kernel_rfl) (by kernel_rfl) (fun _ _ _ h => h) rfl (fun W' hW' => by have e0 := (Blk.cell hW' 0).trans (stC_zero _ _); go_simp) hS0 ?_
  refine take_first 6 (v := .pointer (some ⟨s, 0, none⟩)) rfl (by kernel_rfl) (by kernel_rfl) (by kernel_rfl) (fun _ _ _ h => h) rfl (fun W' hW' => by go_simp) hS0 ?_
  refine take_first 7 (v := .pointer (some ⟨s, 0, none⟩)) rfl (by kernel_rfl) (by kernel_rfl) (by kernel_rfl) (fun _ _ _ h => h) rfl (fun W' hW' => by go_simp) hS0 ?_
  refine take_first 8 (v := .pointer (some ⟨s, 1, none⟩)) rfl (by kernel_rfl) (by kernel_rfl) (by kernel_rfl) (fun _ _ _ h => h) rfl (fun W' hW' => by go_simp) hS0 ?_
  refine take_first 9 (v := .agg (rowA C).toArray) rfl (by kernel_rfl) (by kernel_rfl) (by kernel_rfl) (fun _ _ _ h => h) rfl (fun W' hW' => by exact exec_row 57 (.tmp 11) rfl ⟨s, 1, none⟩ _ (by go_simp) (run_loadAt_mid _ s 1 57 (rowA C) _ (rowA_at hW') Tryd.underlying57 rfl (by kernel_rfl))) hS0 ?_
  refine take_first 10 (v := .pointer (some ⟨s, 0, none⟩)) rfl (by kernel_rfl) (by kernel_rfl) (by kernel_rfl) (fun _ _ _ h => h) rfl (fun W' hW' => by go_simp) hS0 ?_
  refine take_first 11 (v := .pointer (some ⟨s, 0, none⟩)) rfl (by kernel_rfl) (by kernel_rfl) (by kernel_rfl) (fun _ _ _ h => h) rfl (fun W' hW' => by go_simp) hS0 ?_
  refine take_first 12 (v := .pointer (some ⟨s, 101, none⟩)) rfl (by kernel_rfl) (by kernel_rfl) (by kernel_rfl) (fun _ _ _ h => h) rfl (fun W' hW' => by go_simp) hS0 ?_
  refine take_first 13 (v := .agg (rowB C).toArray) rfl (by kernel_rfl) (by kernel_rfl) (by kernel_rfl) (fun _ _ _ h => h) rfl (fun W' hW' => by exact exec_row 58 (.tmp 15) rfl ⟨s, 101, none⟩ _ (by go_simp) (run_loadAt_mid _ s 101 58 (rowB C) _ (rowB_at hW') Tryd.underlying58 rfl (by kernel_rfl))) hS0 ?_
  have kA := (h.1.drew.alloc (.cells #[] 71))
  refine one_next 0 (by kernel_rfl) rfl rfl fun K0 hK0 => ?_
  have HK0 := Lib.hid hK0
  clear hK0
  go_simp
  refine HK0.out _ _ kA ?_
  refine one_next 5 (by kernel_rfl) rfl rfl fun K5 hK5 => ?_
  refine wp_append_lies _ (.tmp 3) (.tmp 7) 65 rfl w.heap.size 71 j0 (.agg (List.replicate 33 (Value.int .i64 0)).toArray) 33 264 Tryd.underlying65 hi hz0 hz1 hz2 (by kernel_rfl) (by decide) (.slice (some ⟨w.heap.size, 0, none⟩) 0 0) 0 [] (by with_unfolding_all rfl) hnil ⟨g, 0, none⟩ n cap (V.map (Value.int .i64)) (by with_unfolding_all rfl) (by rw [List.length_map, hlen]) ((hown0.drew.alloc _).cells rfl) (by intro u hu'; obtain ⟨z, _, rfl⟩ := List.mem_map.1 hu'; rfl) (by omega) (by unfold maxLen; omega) (by omega) (by simp) (w.heap.size + 1) (by simp) ?_
  intro g' c' w1 hown' hgrow hat hlt'
  rw [Nat.zero_add, List.nil_append] at hown'
  rw [Nat.zero_add]
  have kb1 := kA.grown hgrow (fun e => by have e' : some s = some w.heap.size := e; have := Option.some.inj e'; omega)
  have bel : Below w.heap.size w w1 := ((below_drewN (Below.refl w.heap.size w) 1).alloc (Nat.le_refl _) (.cells #[] 71)).trans (below_of_grown hgrow (by simp) (fun k e => by have e' : some w.heap.size = some k := e; have := Option.some.inj e'; omega))
  refine hK5 _ _ kb1 ?_
  refine one_next 14 (by kernel_rfl) rfl rfl fun K14 hK14 => ?_
  refine wo_built 67 _ (stC (.slice (some ⟨g', 0, none⟩) n c') C) (by with_unfolding_all exact rcopy_built _ _ _ C) ?_
  refine hK14 _ _ kb1 ?_
  refine one_next 15 (by kernel_rfl) rfl rfl fun K15 hK15 => ?_
  have HK15 := Lib.hid hK15
  clear hK15
  go_simp
  have kb2 := kb1.alloc (.cells (stC (.slice (some ⟨g', 0, none⟩) n c') C) 67)
  refine HK15.out _ _ kb2 ?_
  refine one_next 16 (by kernel_rfl) rfl rfl fun K16 hK16 => ?_
  have HK16 := Lib.hid hK16
  clear hK16
  go_simp
  refine HK16.out _ _ kb2 ?_
  refine wpAnyH_done (by kernel_rfl) ?_ _
  have hg' := hown'.lt g' rfl
  have fin : RAt (w1.alloc (.cells (stC (.slice (some ⟨g', 0, none⟩) n c') C) 67)) w.heap.size w1.heap.size g' c' n V C := ⟨Blk.new _ _ _, hown'.alloc _, by omega, bel.size, hn1, hn9⟩
  have belf := bel.alloc bel.size (.cells (stC (.slice (some ⟨g', 0, none⟩) n c') C) 67)
  clear hgrow hown' kb1 kb2 kA hS0 HK0 HK15 HK16 hK5 hK14 hnil hown0 hlt' hat bel
  go_simp
  go_wp2_with fail
  go_ret
  exact ⟨w1.heap.size, g', c', rfl, fin, belf⟩
end Go.Proofs.YtdbhkpkndfhcoaaDoor

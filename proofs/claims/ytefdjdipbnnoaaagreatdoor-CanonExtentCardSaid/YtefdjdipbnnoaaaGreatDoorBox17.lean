/-
  arc.box: the extent of two points. Any points.
-/
import Derived.Test.YtefdjdipbnnoaaaGreatDoorWide17
import Derived.Test.YtefdjdipbnnoaaaGreatDoorVec17
import Derived.Test.YtefdjdipbnnoaaaGreatDoorItem17
import Derived.Test.YtefdjdipbnnoaaaGreatDoorHeldL
namespace Go.Proofs.YtefdjdipbnnoaaaGreatDoor
open Go Go.RowKit
set_option linter.unusedVariables false

def mnI (x y : Int) : Int := if y < x then y else x
def mxI (x y : Int) : Int := if x < y then y else x
theorem blk_new3 (w : World) (o o2 o3 : Obj) (t : TypeId) (cs : Array Value) : Blk ((((w.alloc o).alloc o2).alloc o3).alloc (.cells cs t)) (w.heap.size + 1 + 1 + 1) t cs := by
  have := Blk.new (((w.alloc o).alloc o2).alloc o3) t cs
  simpa using this
/-- The two points in memory. -/
structure BoxS (w : World) (x y z x2 y2 z2 : Int) (W : World) : Prop where
  a : Blk W w.heap.size 23 #[.int .i64 x, .int .i64 y, .int .i64 z]
  b : Blk W (w.heap.size + 1) 23 #[.int .i64 x2, .int .i64 y2, .int .i64 z2]
set_option maxRecDepth 100000 in
set_option maxHeartbeats 2000000 in
theorem box_any (x y z x2 y2 z2 : Int) (w : World) : Calls Tryz.prog 56 #[.agg #[.int .i64 x, .int .i64 y, .int .i64 z], .agg #[.int .i64 x2, .int .i64 y2, .int .i64 z2]] w fun e w' => e = .returned (.tuple #[.agg #[.int .i64 (mnI x x2), .int .i64 (mnI y y2), .int .i64 (mnI z z2)], .agg #[.int .i64 (mxI x x2), .int .i64 (mxI y y2), .int .i64 (mxI z z2)]]) ∧ Below w.heap.size w w' := by
  go_enter Tryz.func56, Tryz.ntmps56
  go_upto_region 1 with fail
  refine wp_told (fun W => Blk W w.heap.size 23 #[.int .i64 x, .int .i64 y, .int .i64 z] ∧ Blk W (w.heap.size + 1) 23 #[.int .i64 x2, .int .i64 y2, .int .i64 z2] ∧ Blk W (w.heap.size + 1 + 1) 23 #[.int .i64 0, .int .i64 0, .int .i64 0] ∧ Blk W (w.heap.size + 1 + 1 + 1) 23 #[.int .i64 0, .int .i64 0, .int .i64 0] ∧ Below w.heap.size w W)
    ⟨(((Blk.new w _ _).alloc _).alloc _).alloc _, ((blk_new1 w _ _ _).alloc _).alloc _, (blk_new2 w _ _ _ _).alloc _, blk_new3 w _ _ _ _ _, (by (repeat (first | exact Below.refl _ _ | refine Below.drew ?_ | refine Below.alloc ?_ (by first | exact Nat.le_refl _ | (simp; done) | (simp; omega)) _)))⟩ ?_
  rintro W4 ⟨h0, h1, h2, h3, bel⟩
  have c0 : W4.cell? ⟨w.heap.size, 0, none⟩ = some (.int .i64 x) := h0.cell' 0 rfl
  have c1 : W4.cell? ⟨w.heap.size, 1, none⟩ = some (.int .i64 y) := h0.cell' 1 rfl
  have c2 : W4.cell? ⟨w.heap.size, 2, none⟩ = some (.int .i64 z) := h0.cell' 2 rfl
  have e0 : W4.cell? ⟨w.heap.size + 1, 0, none⟩ = some (.int .i64 x2) := h1.cell' 0 rfl
  have e1 : W4.cell? ⟨w.heap.size + 1, 1, none⟩ = some (.int .i64 y2) := h1.cell' 1 rfl
  have e2 : W4.cell? ⟨w.heap.size + 1, 2, none⟩ = some (.int .i64 z2) := h1.cell' 2 rfl
  have q0 : W4.cell? ⟨w.heap.size + 1 + 1, 0, none⟩ = some (.int .i64 0) := h2.cell' 0 rfl
  have q1 : W4.cell? ⟨w.heap.size + 1 + 1, 1, none⟩ = some (.int .i64 0) := h2.cell' 1 rfl
  have q2 : W4.cell? ⟨w.heap.size + 1 + 1, 2, none⟩ = some (.int .i64 0) := h2.cell' 2 rfl
  have r0 : W4.cell? ⟨w.heap.size + 1 + 1 + 1, 0, none⟩ = some (.int .i64 0) := h3.cell' 0 rfl
  have r1 : W4.cell? ⟨w.heap.size + 1 + 1 + 1, 1, none⟩ = some (.int .i64 0) := h3.cell' 1 rfl
  have r2 : W4.cell? ⟨w.heap.size + 1 + 1 + 1, 2, none⟩ = some (.int .i64 0) := h3.cell' 2 rfl
  have f0 := h2.frozen 0
  have f1 := h2.frozen 1
  have f2 := h2.frozen 2
  have g0 := h3.frozen 0
  have g1 := h3.frozen 1
  have g2 := h3.frozen 2
  have H2 := Lib.hid h2
  have H3 := Lib.hid h3
  have BEL := Lib.hid bel
  have HB := Lib.hid (⟨h0.drew, h1.drew⟩ : BoxS w x y z x2 y2 z2 W4.drew)
  clear h0 h1 h2 h3 bel
  have hS0 := HB.out
  refine region_L (BoxS w x y z x2 y2 z2) [33] (by kernel_rfl) ?_
  refine take_P 0 (v := .pointer (some ⟨w.heap.size, 0, none⟩)) rfl (by kernel_rfl) (by kernel_rfl) (by kernel_rfl) (fun _ _ _ h => h) rfl (fun W' => by go_simp) ?_
  refine take_L 1 (v := .int .i64 x) rfl (by kernel_rfl) (by kernel_rfl) (by kernel_rfl) (by kernel_rfl) (fun _ _ _ h => h) rfl (fun W' hW' => by have q : W'.cell? ⟨w.heap.size, 0, none⟩ = some (.int .i64 x) := hW'.a.cell' 0 rfl; go_simp) hS0 ?_
  refine take_P 2 (v := .pointer (some ⟨w.heap.size + 1, 0, none⟩)) rfl (by kernel_rfl) (by kernel_rfl) (by kernel_rfl) (fun _ _ _ h => h) rfl (fun W' => by go_simp) ?_
  refine take_L 3 (v := .int .i64 x2) rfl (by kernel_rfl) (by kernel_rfl) (by kernel_rfl) (by kernel_rfl) (fun _ _ _ h => h) rfl (fun W' hW' => by have q : W'.cell? ⟨w.heap.size + 1, 0, none⟩ = some (.int .i64 x2) := hW'.b.cell' 0 rfl; go_simp) hS0 ?_
  refine take_P 4 (v := .int .i64 (mnI x x2)) rfl (by kernel_rfl) (by kernel_rfl) (by kernel_rfl) (fun _ _ _ h => h) rfl (fun W' => by go_simp; rfl) ?_
  refine take_P 5 (v := .pointer (some ⟨w.heap.size, 1, none⟩)) rfl (by kernel_rfl) (by kernel_rfl) (by kernel_rfl) (fun _ _ _ h => h) rfl (fun W' => by go_simp) ?_
  refine take_L 6 (v := .int .i64 y) rfl (by kernel_rfl) (by kernel_rfl) (by kernel_rfl) (by kernel_rfl) (fun _ _ _ h => h) rfl (fun W' hW' => by have q : W'.cell? ⟨w.heap.size, 1, none⟩ = some (.int .i64 y) := hW'.a.cell' 1 rfl; go_simp) hS0 ?_
  refine take_P 7 (v := .pointer (some ⟨w.heap.size + 1, 1, none⟩)) rfl (by kernel_rfl) (by kernel_rfl) (by kernel_rfl) (fun _ _ _ h => h) rfl (fun W' => by go_simp) ?_
  refine take_L 8 (v := .int .i64 y2) rfl (by kernel_rfl) (by kernel_rfl) (by kernel_rfl) (by kernel_rfl) (fun _ _ _ h => h) rfl (fun W' hW' => by have q : W'.cell? ⟨w.heap.size + 1, 1, none⟩ = some (.int .i64 y2) := hW'.b.cell' 1 rfl; go_simp) hS0 ?_
  refine take_P 9 (v := .int .i64 (mnI y y2)) rfl (by kernel_rfl) (by kernel_rfl) (by kernel_rfl) (fun _ _ _ h => h) rfl (fun W' => by go_simp; rfl) ?_
  refine take_P 10 (v := .pointer (some ⟨w.heap.size, 2, none⟩)) rfl (by kernel_rfl) (by kernel_rfl) (by kernel_rfl) (fun _ _ _ h => h) rfl (fun W' => by go_simp) ?_
  refine take_L 11 (v := .int .i64 z) rfl (by kernel_rfl) (by kernel_rfl) (by kernel_rfl) (by kernel_rfl) (fun _ _ _ h => h) rfl (fun W' hW' => by have q : W'.cell? ⟨w.heap.size, 2, none⟩ = some (.int .i64 z) := hW'.a.cell' 2 rfl; go_simp) hS0 ?_
  refine take_P 12 (v := .pointer (some ⟨w.heap.size + 1, 2, none⟩)) rfl (by kernel_rfl) (by kernel_rfl) (by kernel_rfl) (fun _ _ _ h => h) rfl (fun W' => by go_simp) ?_
  refine take_L 13 (v := .int .i64 z2) rfl (by kernel_rfl) (by kernel_rfl) (by kernel_rfl) (by kernel_rfl) (fun _ _ _ h => h) rfl (fun W' hW' => by have q : W'.cell? ⟨w.heap.size + 1, 2, none⟩ = some (.int .i64 z2) := hW'.b.cell' 2 rfl; go_simp) hS0 ?_
  refine take_P 14 (v := .int .i64 (mnI z z2)) rfl (by kernel_rfl) (by kernel_rfl) (by kernel_rfl) (fun _ _ _ h => h) rfl (fun W' => by go_simp; rfl) ?_
  refine take_P 15 (v := .agg #[.int .i64 (mnI x x2), .int .i64 (mnI y y2), .int .i64 (mnI z z2)]) rfl (by kernel_rfl) (by kernel_rfl) (by kernel_rfl) (fun _ _ _ h => h) rfl (fun W' => by go_simp) ?_
  refine take_P 16 (v := .pointer (some ⟨w.heap.size, 0, none⟩)) rfl (by kernel_rfl) (by kernel_rfl) (by kernel_rfl) (fun _ _ _ h => h) rfl (fun W' => by go_simp) ?_
  refine take_L 17 (v := .int .i64 x) rfl (by kernel_rfl) (by kernel_rfl) (by kernel_rfl) (by kernel_rfl) (fun _ _ _ h => h) rfl (fun W' hW' => by have q : W'.cell? ⟨w.heap.size, 0, none⟩ = some (.int .i64 x) := hW'.a.cell' 0 rfl; go_simp) hS0 ?_
  refine take_P 18 (v := .pointer (some ⟨w.heap.size + 1, 0, none⟩)) rfl (by kernel_rfl) (by kernel_rfl) (by kernel_rfl) (fun _ _ _ h => h) rfl (fun W' => by go_simp) ?_
  refine take_L 19 (v := .int .i64 x2) rfl (by kernel_rfl) (by kernel_rfl) (by kernel_rfl) (by kernel_rfl) (fun _ _ _ h => h) rfl (fun W' hW' => by have q : W'.cell? ⟨w.heap.size + 1, 0, none⟩ = some (.int .i64 x2) := hW'.b.cell' 0 rfl; go_simp) hS0 ?_
  refine take_P 20 (v := .int .i64 (mxI x x2)) rfl (by kernel_rfl) (by kernel_rfl) (by kernel_rfl) (fun _ _ _ h => h) rfl (fun W' => by go_simp; rfl) ?_
  refine take_P 21 (v := .pointer (some ⟨w.heap.size, 1, none⟩)) rfl (by kernel_rfl) (by kernel_rfl) (by kernel_rfl) (fun _ _ _ h => h) rfl (fun W' => by go_simp) ?_
  refine take_L 22 (v := .int .i64 y) rfl (by kernel_rfl) (by kernel_rfl) (by kernel_rfl) (by kernel_rfl) (fun _ _ _ h => h) rfl (fun W' hW' => by have q : W'.cell? ⟨w.heap.size, 1, none⟩ = some (.int .i64 y) := hW'.a.cell' 1 rfl; go_simp) hS0 ?_
  refine take_P 23 (v := .pointer (some ⟨w.heap.size + 1, 1, none⟩)) rfl (by kernel_rfl) (by kernel_rfl) (by kernel_rfl) (fun _ _ _ h => h) rfl (fun W' => by go_simp) ?_
  refine take_L 24 (v := .int .i64 y2) rfl (by kernel_rfl) (by kernel_rfl) (by kernel_rfl) (by kernel_rfl) (fun _ _ _ h => h) rfl (fun W' hW' => by have q : W'.cell? ⟨w.heap.size + 1, 1, none⟩ = some (.int .i64 y2) := hW'.b.cell' 1 rfl; go_simp) hS0 ?_
  refine take_P 25 (v := .int .i64 (mxI y y2)) rfl (by kernel_rfl) (by kernel_rfl) (by kernel_rfl) (fun _ _ _ h => h) rfl (fun W' => by go_simp; rfl) ?_
  refine take_P 26 (v := .pointer (some ⟨w.heap.size, 2, none⟩)) rfl (by kernel_rfl) (by kernel_rfl) (by kernel_rfl) (fun _ _ _ h => h) rfl (fun W' => by go_simp) ?_
  refine take_L 27 (v := .int .i64 z) rfl (by kernel_rfl) (by kernel_rfl) (by kernel_rfl) (by kernel_rfl) (fun _ _ _ h => h) rfl (fun W' hW' => by have q : W'.cell? ⟨w.heap.size, 2, none⟩ = some (.int .i64 z) := hW'.a.cell' 2 rfl; go_simp) hS0 ?_
  refine take_P 28 (v := .pointer (some ⟨w.heap.size + 1, 2, none⟩)) rfl (by kernel_rfl) (by kernel_rfl) (by kernel_rfl) (fun _ _ _ h => h) rfl (fun W' => by go_simp) ?_
  refine take_L 29 (v := .int .i64 z2) rfl (by kernel_rfl) (by kernel_rfl) (by kernel_rfl) (by kernel_rfl) (fun _ _ _ h => h) rfl (fun W' hW' => by have q : W'.cell? ⟨w.heap.size + 1, 2, none⟩ = some (.int .i64 z2) := hW'.b.cell' 2 rfl; go_simp) hS0 ?_
  refine take_P 30 (v := .int .i64 (mxI z z2)) rfl (by kernel_rfl) (by kernel_rfl) (by kernel_rfl) (fun _ _ _ h => h) rfl (fun W' => by go_simp; rfl) ?_
  refine take_P 31 (v := .agg #[.int .i64 (mxI x x2), .int .i64 (mxI y y2), .int .i64 (mxI z z2)]) rfl (by kernel_rfl) (by kernel_rfl) (by kernel_rfl) (fun _ _ _ h => h) rfl (fun W' => by go_simp) ?_
  refine one_L 32 (by kernel_rfl) rfl rfl fun K32 hK32 => ?_
  have HK32 := Lib.hid hK32
  clear hK32
  go_simp
  refine HK32.out _ _ (fun _ _ => ⟨(Blk.skip (Blk.skip (Blk.skip hS0.a (by show w.heap.size ≠ w.heap.size + 1 + 1; omega) _) (by show w.heap.size ≠ w.heap.size + 1 + 1; omega) _) (by show w.heap.size ≠ w.heap.size + 1 + 1; omega) _), (Blk.skip (Blk.skip (Blk.skip hS0.b (by show w.heap.size + 1 ≠ w.heap.size + 1 + 1; omega) _) (by show w.heap.size + 1 ≠ w.heap.size + 1 + 1; omega) _) (by show w.heap.size + 1 ≠ w.heap.size + 1 + 1; omega) _)⟩) ?_
  clear hS0
  refine one_L 33 (by kernel_rfl) rfl rfl fun K33 hK33 => ?_
  have HK33 := Lib.hid hK33
  clear hK33
  go_simp
  refine HK33.out _ _ (fun h => absurd h (by decide)) ?_
  refine done_L (by kernel_rfl) ?_ _
  clear HK32 HK33
  go_simp
  go_wp2_with fail
  refine bodyPost_ret (results_cc rfl rfl (show Blk _ (w.heap.size + 1 + 1) 23 #[.int .i64 (mnI x x2), .int .i64 (mnI y y2), .int .i64 (mnI z z2)] from Blk.drew (Blk.skip (Blk.skip (Blk.skip (((H2.out.put 0 _).put 1 _).put 2 _) (by simp) _) (by simp) _) (by simp) _)) Tryz.underlying23 rfl (by kernel_rfl) rfl (show Blk _ (w.heap.size + 1 + 1 + 1) 23 #[.int .i64 (mxI x x2), .int .i64 (mxI y y2), .int .i64 (mxI z z2)] from Blk.drew ((((Blk.skip (Blk.skip (Blk.skip H3.out (by simp) _) (by simp) _) (by simp) _).put 0 _).put 1 _).put 2 _)) Tryz.underlying23 rfl (by kernel_rfl)) rfl ?_
  exact ⟨rfl, ((((((BEL.out.setCell (by show w.heap.size ≤ w.heap.size + 1 + 1; omega) _).setCell (by show w.heap.size ≤ w.heap.size + 1 + 1; omega) _).setCell (by show w.heap.size ≤ w.heap.size + 1 + 1; omega) _).setCell (by show w.heap.size ≤ w.heap.size + 1 + 1 + 1; omega) _).setCell (by show w.heap.size ≤ w.heap.size + 1 + 1 + 1; omega) _).setCell (by show w.heap.size ≤ w.heap.size + 1 + 1 + 1; omega) _).drew⟩
end Go.Proofs.YtefdjdipbnnoaaaGreatDoor

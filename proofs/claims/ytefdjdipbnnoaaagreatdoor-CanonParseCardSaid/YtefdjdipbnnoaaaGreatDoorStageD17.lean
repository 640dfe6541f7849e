/-
  cncstage.Item: any tape.
-/
import Derived.Test.YtefdjdipbnnoaaaGreatDoorStageC17
import Derived.Test.YtefdjdipbnnoaaaGreatDoorHeldM
namespace Go.Proofs.YtefdjdipbnnoaaaGreatDoor
open Go Go.RowKit
set_option linter.unusedVariables false
set_option linter.unusedSimpArgs false

theorem add_some (x y z x2 y2 z2 : Int) (w : World) : Calls Tryz.prog 46 #[.agg #[.int .i64 x, .int .i64 y, .int .i64 z], .agg #[.int .i64 x2, .int .i64 y2, .int .i64 z2]] w fun e w' => ∃ u v t : Int, e = .returned (.agg #[.int .i64 u, .int .i64 v, .int .i64 t]) ∧ Below w.heap.size w w' :=
  (radd_any x y z x2 y2 z2 w).mono fun e w' h => ⟨_, _, _, h.1, h.2⟩
theorem sub_some (x y z x2 y2 z2 : Int) (w : World) : Calls Tryz.prog 48 #[.agg #[.int .i64 x, .int .i64 y, .int .i64 z], .agg #[.int .i64 x2, .int .i64 y2, .int .i64 z2]] w fun e w' => ∃ u v t : Int, e = .returned (.agg #[.int .i64 u, .int .i64 v, .int .i64 t]) ∧ Below w.heap.size w w' :=
  (rsub_any x y z x2 y2 z2 w).mono fun e w' h => ⟨_, _, _, h.1, h.2⟩
theorem kinds3 (r : Int) (h0 : 0 ≤ r) (h1 : r < 3) : ∃ s : Int, (#[Value.int .i64 11, .int .i64 12, .int .i64 13])[r.toNat]? = some (.int .i64 s) ∧ 11 ≤ s ∧ s ≤ 13 := by
  rcases (show r = 0 ∨ r = 1 ∨ r = 2 by omega) with rfl | rfl | rfl
  · exact ⟨11, rfl, by omega, by omega⟩
  · exact ⟨12, rfl, by omega, by omega⟩
  · exact ⟨13, rfl, by omega, by omega⟩
/-- An item that is made: of a kind, not the end of a program, and it begins at (x, y, u). -/
def Made (x y u : Int) (i : It) : Prop := 1 ≤ i.kind ∧ i.kind ≤ 13 ∧ (i.kind ≤ 6 → i.fx = x ∧ i.fy = y ∧ i.fz = u)
attribute [local go_sem] itA_0 itA_1 itA_2 itA_3 itA_4 itA_5 itA_6 itA_7 itA_8 itA_9 itA_10 itA_11 itA_12 itA_13 itA_14 itA_15 itA_16 itA_17 itA_18 itA_19 itA_20 itA_21
set_option maxRecDepth 100000 in
set_option maxHeartbeats 8000000 in
theorem sitem_any (w : World) (B g : Nat) (a : Option Addr) (n c : Nat) (z : Nat → Int) (x y u : Int) (hs : ∃ k, Src w B g a n c z k) :
    Calls Tryz.prog 27 #[.pointer (some ⟨g, 0, none⟩), .agg #[.int .i64 x, .int .i64 y, .int .i64 u]] w (ItemPost B g a n c z (Made x y u) w) := by
  have J0 := Lib.hid (((GI.refl hs).alloc (.cells #[.int .i64 x, .int .i64 y, .int .i64 u] 23)).alloc (.cells (itA zeroI) 25))
  have hgl := (GI.refl hs).lt
  clear hs
  go_enter Tryz.func27, Tryz.ntmps27
  go_wp2_with ((with_reducible refine go_allocI ?_))
  refine calls_told (fun W => W.heap.size = w.heap.size + 2 ∧ GI B g a n c z w W ∧ Blk W w.heap.size 23 #[.int .i64 x, .int .i64 y, .int .i64 u] ∧ ItAt W (w.heap.size + 1) zeroI) ⟨by simp, J0.out, (Blk.new w _ _).alloc _, blk_new1 w _ _ _⟩ ?_
  clear J0
  rintro w0 ⟨z0, I0, F0, R0⟩
  refine (next_any w0 B g a n c z 30 I0.src (by omega) (by omega)).mono ?_
  rintro e w1 ⟨bk, kb, hlb, hhb, rfl, s1, g1⟩
  have sz1 := g1.size
  have I1 := Lib.hid (I0.next s1 g1)
  have F1 := Lib.hid (F0.grown g1 (by intro e; injection e; omega))
  have R1 := Lib.hid (Blk.grown R0 g1 (by intro e; injection e; omega))
  clear I0 F0 R0 s1 g1
  have hne : w1.heap.size ≠ w.heap.size := by omega
  go_wp2_with (first
    | ((with_reducible refine go_allocI ?_))
    | ((with_reducible refine go_built 25 _ (itA { zeroI with block := bk }) (by with_unfolding_all kernel_rfl) ?_))
    | ((with_reducible refine go_storeI (.tmp 5) (.tmp 11) w1.heap.size { zeroI with block := bk } zeroI (by with_unfolding_all rfl) (by with_unfolding_all rfl) (ItAt.new _ _) ?_)))
  refine calls_told (fun W => W.heap.size = w1.heap.size + 1 ∧ GI B g a n c z w W ∧ Blk W w.heap.size 23 #[.int .i64 x, .int .i64 y, .int .i64 u] ∧ ItAt W (w.heap.size + 1) zeroI ∧ ItAt W w1.heap.size { zeroI with block := bk }) ?_ ?_
  · exact ⟨by simp, (I1.out.alloc _).row (by omega) _, Blk.rowFar (F1.out.alloc _) (by omega) _, ItAt.rowFar (o := zeroI) (Blk.alloc R1.out _) (by omega) _, ItAt.row (ItAt.new w1 zeroI) _⟩
  clear I1 F1 R1
  rintro w2 ⟨z2, I2, F2, R2, H2⟩
  refine (next_any w2 B g a n c z 14 I2.src (by omega) (by omega)).mono ?_
  rintro e w3 ⟨r, k3, hl3, hh3, rfl, s3, g3⟩
  have I3 := Lib.hid (I2.next s3 g3)
  have F3 := Lib.hid (F2.grown g3 (by intro e; injection e; omega))
  have R3 := Lib.hid (Blk.grown R2 g3 (by intro e; injection e; omega))
  have H3 := Lib.hid (Blk.grown H2 g3 (by intro e; injection e; omega))
  have R3 : Hid (ItAt w3 (w.heap.size + 1) zeroI) := R3
  have H3 : Hid (ItAt w3 w1.heap.size { zeroI with block := bk }) := H3
  have sz3 := g3.size
  clear I2 F2 R2 H2 s3 g3
  rcases (show r = 0 ∨ r = 1 ∨ r = 2 ∨ r = 3 ∨ r = 4 ∨ r = 5 ∨ r = 6 ∨ r = 7 ∨ r = 8 ∨ r = 9 ∨ r = 10 ∨ r = 11 ∨ r = 12 ∨ r = 13 by omega) with rfl | rfl | rfl | rfl | rfl | rfl | rfl | rfl | rfl | rfl | rfl | rfl | rfl | rfl
  · go_wp2_with fail
    refine wp_region_held_drew (S := fun W => W.cell? ⟨w.heap.size, 0, none⟩ = some (.int .i64 x) ∧ W.cell? ⟨w.heap.size, 1, none⟩ = some (.int .i64 y) ∧ W.cell? ⟨w.heap.size, 2, none⟩ = some (.int .i64 u)) (by kernel_rfl) ⟨F3.out.cell' 0 rfl, F3.out.cell' 1 rfl, F3.out.cell' 2 rfl⟩ fun hS0 => ?_
    have I4 := Lib.hid I3.out.drew
    have F4 := Lib.hid F3.out.drew
    have R4 := Lib.hid R3.out.drew
    have H4 := Lib.hid H3.out.drew
    clear I3 F3 R3 H3
    refine take_first 0 (v := .agg #[.int .i64 x, .int .i64 y, .int .i64 u]) rfl (by kernel_rfl) (by kernel_rfl) (by kernel_rfl) (fun _ _ _ h => h) rfl (fun W' hW' => by obtain ⟨q0, q1, q2⟩ := hW'; go_simp) hS0 ?_
    refine take_first 1 (v := .agg #[.int .i64 x, .int .i64 y, .int .i64 u]) rfl (by kernel_rfl) (by kernel_rfl) (by kernel_rfl) (fun _ _ _ h => h) rfl (fun W' hW' => by obtain ⟨q0, q1, q2⟩ := hW'; go_simp) hS0 ?_
    refine take_first 2 (v := .pointer (some ⟨g, 0, none⟩)) rfl (by kernel_rfl) (by kernel_rfl) (by kernel_rfl) (fun _ _ _ h => h) rfl (fun W' hW' => by go_simp) hS0 ?_
    refine take_first 5 (v := .pointer (some ⟨w1.heap.size, 0, none⟩)) rfl (by kernel_rfl) (by kernel_rfl) (by kernel_rfl) (fun _ _ _ h => h) rfl (fun W' hW' => by go_simp) hS0 ?_
    refine one_next 3 (by kernel_rfl) rfl rfl fun K3 hK3 => ?_
    have HK3 := Lib.hid hK3
    clear hK3
    go_simp
    refine (svec_any _ B g a n c z 300 I4.out.src (by omega) (by omega)).mono ?_
    rintro e w5 ⟨dx, dy, du, hdx, hdy, hdu, rfl, gg⟩
    have I5 := Lib.hid (I4.out.trans gg)
    have F5 := Lib.hid (Blk.grown F4.out gg.gr (by intro e; injection e; omega))
    have R5 := Lib.hid (Blk.grown R4.out gg.gr (by intro e; injection e; omega))
    have H5 := Lib.hid (Blk.grown H4.out gg.gr (by intro e; injection e; omega))
    have zz5 := gg.gr.size
    clear I4 F4 R4 H4 gg
    have H5 : Hid (ItAt w5 w1.heap.size _) := H5
    have R5 : Hid (ItAt w5 (w.heap.size + 1) _) := R5
    refine HK3.out _ _ ⟨F5.out.cell' 0 rfl, F5.out.cell' 1 rfl, F5.out.cell' 2 rfl⟩ ?_
    clear HK3
    refine one_next 4 (by kernel_rfl) rfl rfl fun K4 hK4 => ?_
    have HK4 := Lib.hid hK4
    clear hK4
    go_simp
    refine (add_some _ _ _ _ _ _ _).mono ?_
    rintro e w6 ⟨tx, ty, tz, rfl, bb⟩
    have I6 := Lib.hid (I5.out.below bb)
    have F6 := Lib.hid (Blk.below F5.out bb F5.out.lt)
    have R6 := Lib.hid (Blk.below R5.out bb R5.out.lt)
    have H6 := Lib.hid (Blk.below H5.out bb H5.out.lt)
    have zz6 := bb.size
    clear I5 F5 R5 H5 bb
    have H6 : Hid (ItAt w6 w1.heap.size _) := H6
    have R6 : Hid (ItAt w6 (w.heap.size + 1) _) := R6
    refine HK4.out _ _ ⟨F6.out.cell' 0 rfl, F6.out.cell' 1 rfl, F6.out.cell' 2 rfl⟩ ?_
    clear HK4
    have f0 := Blk.frozen H6.out 0
    have r0 := H6.out.c0
    refine one_next 6 (by kernel_rfl) rfl rfl fun K6 hK6 => ?_
    have HK6 := Lib.hid hK6
    clear hK6
    go_simp
    have I7 := Lib.hid (I6.out.set (b := w1.heap.size) (by omega) 0 (.int .i64 1))
    have F7 := Lib.hid (Blk.skip F6.out (p := ⟨w1.heap.size, 0, none⟩) (by show w.heap.size ≠ w1.heap.size; omega) (.int .i64 1))
    have R7 := Lib.hid (ItAt.far R6.out (p := ⟨w1.heap.size, 0, none⟩) (by show (w.heap.size + 1) ≠ w1.heap.size; omega) (.int .i64 1))
    have H7 := Lib.hid (H6.out.s0 1)
    clear f0 r0 I6 F6 R6 H6
    refine HK6.out _ _ ⟨F7.out.cell' 0 rfl, F7.out.cell' 1 rfl, F7.out.cell' 2 rfl⟩ ?_
    clear HK6
    refine take_first 7 (v := .pointer (some ⟨w1.heap.size, 2, none⟩)) rfl (by kernel_rfl) (by kernel_rfl) (by kernel_rfl) (fun _ _ _ h => h) rfl (fun W' hW' => by go_simp) ⟨F7.out.cell' 0 rfl, F7.out.cell' 1 rfl, F7.out.cell' 2 rfl⟩ ?_
    have f2 := Blk.frozen H7.out 2
    have r2 := H7.out.c2
    have f3 := Blk.frozen H7.out 3
    have r3 := H7.out.c3
    have f4 := Blk.frozen H7.out 4
    have r4 := H7.out.c4
    refine one_next 8 (by kernel_rfl) rfl rfl fun K8 hK8 => ?_
    have HK8 := Lib.hid hK8
    clear hK8
    go_simp
    have I8 := Lib.hid (((I7.out.set (b := w1.heap.size) (by omega) 2 (.int .i64 x)).set (b := w1.heap.size) (by omega) 3 (.int .i64 y)).set (b := w1.heap.size) (by omega) 4 (.int .i64 u))
    have F8 := Lib.hid (Blk.skip (Blk.skip (Blk.skip F7.out (p := ⟨w1.heap.size, 2, none⟩) (by show w.heap.size ≠ w1.heap.size; omega) (.int .i64 x)) (p := ⟨w1.heap.size, 3, none⟩) (by show w.heap.size ≠ w1.heap.size; omega) (.int .i64 y)) (p := ⟨w1.heap.size, 4, none⟩) (by show w.heap.size ≠ w1.heap.size; omega) (.int .i64 u))
    have R8 := Lib.hid (ItAt.far (ItAt.far (ItAt.far R7.out (p := ⟨w1.heap.size, 2, none⟩) (by show (w.heap.size + 1) ≠ w1.heap.size; omega) (.int .i64 x)) (p := ⟨w1.heap.size, 3, none⟩) (by show (w.heap.size + 1) ≠ w1.heap.size; omega) (.int .i64 y)) (p := ⟨w1.heap.size, 4, none⟩) (by show (w.heap.size + 1) ≠ w1.heap.size; omega) (.int .i64 u))
    have H8 := Lib.hid (((H7.out.s2 x).s3 y).s4 u)
    clear f2 r2 f3 r3 f4 r4 I7 F7 R7 H7
    refine HK8.out _ _ ⟨F8.out.cell' 0 rfl, F8.out.cell' 1 rfl, F8.out.cell' 2 rfl⟩ ?_
    clear HK8
    refine take_first 9 (v := .pointer (some ⟨w1.heap.size, 5, none⟩)) rfl (by kernel_rfl) (by kernel_rfl) (by kernel_rfl) (fun _ _ _ h => h) rfl (fun W' hW' => by go_simp) ⟨F8.out.cell' 0 rfl, F8.out.cell' 1 rfl, F8.out.cell' 2 rfl⟩ ?_
    have f5 := Blk.frozen H8.out 5
    have r5 := H8.out.c5
    have f6 := Blk.frozen H8.out 6
    have r6 := H8.out.c6
    have f7 := Blk.frozen H8.out 7
    have r7 := H8.out.c7
    refine one_next 10 (by kernel_rfl) rfl rfl fun K10 hK10 => ?_
    have HK10 := Lib.hid hK10
    clear hK10
    go_simp
    have I9 := Lib.hid (((I8.out.set (b := w1.heap.size) (by omega) 5 (.int .i64 tx)).set (b := w1.heap.size) (by omega) 6 (.int .i64 ty)).set (b := w1.heap.size) (by omega) 7 (.int .i64 tz))
    have F9 := Lib.hid (Blk.skip (Blk.skip (Blk.skip F8.out (p := ⟨w1.heap.size, 5, none⟩) (by show w.heap.size ≠ w1.heap.size; omega) (.int .i64 tx)) (p := ⟨w1.heap.size, 6, none⟩) (by show w.heap.size ≠ w1.heap.size; omega) (.int .i64 ty)) (p := ⟨w1.heap.size, 7, none⟩) (by show w.heap.size ≠ w1.heap.size; omega) (.int .i64 tz))
    have R9 := Lib.hid (ItAt.far (ItAt.far (ItAt.far R8.out (p := ⟨w1.heap.size, 5, none⟩) (by show (w.heap.size + 1) ≠ w1.heap.size; omega) (.int .i64 tx)) (p := ⟨w1.heap.size, 6, none⟩) (by show (w.heap.size + 1) ≠ w1.heap.size; omega) (.int .i64 ty)) (p := ⟨w1.heap.size, 7, none⟩) (by show (w.heap.size + 1) ≠ w1.heap.size; omega) (.int .i64 tz))
    have H9 := Lib.hid (((H8.out.s5 tx).s6 ty).s7 tz)
    clear f5 r5 f6 r6 f7 r7 I8 F8 R8 H8
    refine HK10.out _ _ ⟨F9.out.cell' 0 rfl, F9.out.cell' 1 rfl, F9.out.cell' 2 rfl⟩ ?_
    clear HK10
    refine wpAnyH_done (by kernel_rfl) ?_ _
    obtain ⟨o10, ho10, H9⟩ : ∃ o, Hid (o = _) ∧ Hid (ItAt _ w1.heap.size o) := ⟨_, Lib.hid rfl, H9⟩
    refine on_told (fun W => GI B g a n c z w W ∧ Blk W w.heap.size 23 #[.int .i64 x, .int .i64 y, .int .i64 u] ∧ ItAt W (w.heap.size + 1) zeroI ∧ ItAt W w1.heap.size o10) ⟨I9.out, F9.out, R9.out, H9.out⟩ ?_
    clear I9 F9 R9 H9
    rintro W10 ⟨i10, f10, r10, h10⟩
    have I10 := Lib.hid i10
    have F10 := Lib.hid f10
    have R10 := Lib.hid r10
    have H10 := Lib.hid h10
    clear i10 f10 r10 h10
    go_simp
    obtain ⟨o11, ho11, H11⟩ : ∃ o, Hid (o = _) ∧ Hid (ItAt _ w1.heap.size o) := ⟨_, Lib.hid rfl, Lib.hid H10.out⟩
    have I11 := Lib.hid I10.out
    have R11 := Lib.hid R10.out
    have lt1 := R10.out.lt
    have lt2 := H10.out.lt
    clear I10 F10 R10 H10
    go_wp2_with (first | ((with_reducible refine go_loadI (.tmp 5) w1.heap.size o11 (by with_unfolding_all rfl) H11.out ?_)) | ((with_reducible refine go_storeI (.tmp 4) (.tmp 147) (w.heap.size + 1) o11 zeroI (by with_unfolding_all rfl) (by with_unfolding_all rfl) R11.out ?_)))
    refine bodyPost_ret (results_cell_row rfl _ _ (w.heap.size + 1) 25 (itA o11) (0, 0) _ rfl (show Blk _ _ _ _ from ItAt.row (o := zeroI) R11.out _) Tryz.underlying25 rfl (by kernel_rfl)) rfl ?_
    exact ⟨o11, (by rw [ho11.out, ho10.out]; exact ⟨by simp [zeroI], by simp [zeroI], fun _ => ⟨rfl, rfl, rfl⟩⟩), rfl, I11.out.row (by omega) _⟩
  · go_wp2_with fail
    refine wp_region_held_drew (S := fun W => W.cell? ⟨w.heap.size, 0, none⟩ = some (.int .i64 x) ∧ W.cell? ⟨w.heap.size, 1, none⟩ = some (.int .i64 y) ∧ W.cell? ⟨w.heap.size, 2, none⟩ = some (.int .i64 u)) (by kernel_rfl) ⟨F3.out.cell' 0 rfl, F3.out.cell' 1 rfl, F3.out.cell' 2 rfl⟩ fun hS0 => ?_
    have I4 := Lib.hid I3.out.drew
    have F4 := Lib.hid F3.out.drew
    have R4 := Lib.hid R3.out.drew
    have H4 := Lib.hid H3.out.drew
    clear I3 F3 R3 H3
    refine take_first 0 (v := .agg #[.int .i64 x, .int .i64 y, .int .i64 u]) rfl (by kernel_rfl) (by kernel_rfl) (by kernel_rfl) (fun _ _ _ h => h) rfl (fun W' hW' => by obtain ⟨q0, q1, q2⟩ := hW'; go_simp) hS0 ?_
    refine take_first 1 (v := .agg #[.int .i64 x, .int .i64 y, .int .i64 u]) rfl (by kernel_rfl) (by kernel_rfl) (by kernel_rfl) (fun _ _ _ h => h) rfl (fun W' hW' => by obtain ⟨q0, q1, q2⟩ := hW'; go_simp) hS0 ?_
    refine take_first 2 (v := .pointer (some ⟨g, 0, none⟩)) rfl (by kernel_rfl) (by kernel_rfl) (by kernel_rfl) (fun _ _ _ h => h) rfl (fun W' hW' => by go_simp) hS0 ?_
    refine take_first 5 (v := .pointer (some ⟨w1.heap.size, 0, none⟩)) rfl (by kernel_rfl) (by kernel_rfl) (by kernel_rfl) (fun _ _ _ h => h) rfl (fun W' hW' => by go_simp) hS0 ?_
    refine one_next 3 (by kernel_rfl) rfl rfl fun K3 hK3 => ?_
    have HK3 := Lib.hid hK3
    clear hK3
    go_simp
    refine (svec_any _ B g a n c z 300 I4.out.src (by omega) (by omega)).mono ?_
    rintro e w5 ⟨dx, dy, du, hdx, hdy, hdu, rfl, gg⟩
    have I5 := Lib.hid (I4.out.trans gg)
    have F5 := Lib.hid (Blk.grown F4.out gg.gr (by intro e; injection e; omega))
    have R5 := Lib.hid (Blk.grown R4.out gg.gr (by intro e; injection e; omega))
    have H5 := Lib.hid (Blk.grown H4.out gg.gr (by intro e; injection e; omega))
    have zz5 := gg.gr.size
    clear I4 F4 R4 H4 gg
    have H5 : Hid (ItAt w5 w1.heap.size _) := H5
    have R5 : Hid (ItAt w5 (w.heap.size + 1) _) := R5
    refine HK3.out _ _ ⟨F5.out.cell' 0 rfl, F5.out.cell' 1 rfl, F5.out.cell' 2 rfl⟩ ?_
    clear HK3
    refine one_next 4 (by kernel_rfl) rfl rfl fun K4 hK4 => ?_
    have HK4 := Lib.hid hK4
    clear hK4
    go_simp
    refine (add_some _ _ _ _ _ _ _).mono ?_
    rintro e w6 ⟨tx, ty, tz, rfl, bb⟩
    have I6 := Lib.hid (I5.out.below bb)
    have F6 := Lib.hid (Blk.below F5.out bb F5.out.lt)
    have R6 := Lib.hid (Blk.below R5.out bb R5.out.lt)
    have H6 := Lib.hid (Blk.below H5.out bb H5.out.lt)
    have zz6 := bb.size
    clear I5 F5 R5 H5 bb
    have H6 : Hid (ItAt w6 w1.heap.size _) := H6
    have R6 : Hid (ItAt w6 (w.heap.size + 1) _) := R6
    refine HK4.out _ _ ⟨F6.out.cell' 0 rfl, F6.out.cell' 1 rfl, F6.out.cell' 2 rfl⟩ ?_
    clear HK4
    have f0 := Blk.frozen H6.out 0
    have r0 := H6.out.c0
    refine one_next 6 (by kernel_rfl) rfl rfl fun K6 hK6 => ?_
    have HK6 := Lib.hid hK6
    clear hK6
    go_simp
    have I7 := Lib.hid (I6.out.set (b := w1.heap.size) (by omega) 0 (.int .i64 2))
    have F7 := Lib.hid (Blk.skip F6.out (p := ⟨w1.heap.size, 0, none⟩) (by show w.heap.size ≠ w1.heap.size; omega) (.int .i64 2))
    have R7 := Lib.hid (ItAt.far R6.out (p := ⟨w1.heap.size, 0, none⟩) (by show (w.heap.size + 1) ≠ w1.heap.size; omega) (.int .i64 2))
    have H7 := Lib.hid (H6.out.s0 2)
    clear f0 r0 I6 F6 R6 H6
    refine HK6.out _ _ ⟨F7.out.cell' 0 rfl, F7.out.cell' 1 rfl, F7.out.cell' 2 rfl⟩ ?_
    clear HK6
    refine take_first 7 (v := .pointer (some ⟨w1.heap.size, 2, none⟩)) rfl (by kernel_rfl) (by kernel_rfl) (by kernel_rfl) (fun _ _ _ h => h) rfl (fun W' hW' => by go_simp) ⟨F7.out.cell' 0 rfl, F7.out.cell' 1 rfl, F7.out.cell' 2 rfl⟩ ?_
    have f2 := Blk.frozen H7.out 2
    have r2 := H7.out.c2
    have f3 := Blk.frozen H7.out 3
    have r3 := H7.out.c3
    have f4 := Blk.frozen H7.out 4
    have r4 := H7.out.c4
    refine one_next 8 (by kernel_rfl) rfl rfl fun K8 hK8 => ?_
    have HK8 := Lib.hid hK8
    clear hK8
    go_simp
    have I8 := Lib.hid (((I7.out.set (b := w1.heap.size) (by omega) 2 (.int .i64 x)).set (b := w1.heap.size) (by omega) 3 (.int .i64 y)).set (b := w1.heap.size) (by omega) 4 (.int .i64 u))
    have F8 := Lib.hid (Blk.skip (Blk.skip (Blk.skip F7.out (p := ⟨w1.heap.size, 2, none⟩) (by show w.heap.size ≠ w1.heap.size; omega) (.int .i64 x)) (p := ⟨w1.heap.size, 3, none⟩) (by show w.heap.size ≠ w1.heap.size; omega) (.int .i64 y)) (p := ⟨w1.heap.size, 4, none⟩) (by show w.heap.size ≠ w1.heap.size; omega) (.int .i64 u))
    have R8 := Lib.hid (ItAt.far (ItAt.far (ItAt.far R7.out (p := ⟨w1.heap.size, 2, none⟩) (by show (w.heap.size + 1) ≠ w1.heap.size; omega) (.int .i64 x)) (p := ⟨w1.heap.size, 3, none⟩) (by show (w.heap.size + 1) ≠ w1.heap.size; omega) (.int .i64 y)) (p := ⟨w1.heap.size, 4, none⟩) (by show (w.heap.size + 1) ≠ w1.heap.size; omega) (.int .i64 u))
    have H8 := Lib.hid (((H7.out.s2 x).s3 y).s4 u)
    clear f2 r2 f3 r3 f4 r4 I7 F7 R7 H7
    refine HK8.out _ _ ⟨F8.out.cell' 0 rfl, F8.out.cell' 1 rfl, F8.out.cell' 2 rfl⟩ ?_
    clear HK8
    refine take_first 9 (v := .pointer (some ⟨w1.heap.size, 5, none⟩)) rfl (by kernel_rfl) (by kernel_rfl) (by kernel_rfl) (fun _ _ _ h => h) rfl (fun W' hW' => by go_simp) ⟨F8.out.cell' 0 rfl, F8.out.cell' 1 rfl, F8.out.cell' 2 rfl⟩ ?_
    have f5 := Blk.frozen H8.out 5
    have r5 := H8.out.c5
    have f6 := Blk.frozen H8.out 6
    have r6 := H8.out.c6
    have f7 := Blk.frozen H8.out 7
    have r7 := H8.out.c7
    refine one_next 10 (by kernel_rfl) rfl rfl fun K10 hK10 => ?_
    have HK10 := Lib.hid hK10
    clear hK10
    go_simp
    have I9 := Lib.hid (((I8.out.set (b := w1.heap.size) (by omega) 5 (.int .i64 tx)).set (b := w1.heap.size) (by omega) 6 (.int .i64 ty)).set (b := w1.heap.size) (by omega) 7 (.int .i64 tz))
    have F9 := Lib.hid (Blk.skip (Blk.skip (Blk.skip F8.out (p := ⟨w1.heap.size, 5, none⟩) (by show w.heap.size ≠ w1.heap.size; omega) (.int .i64 tx)) (p := ⟨w1.heap.size, 6, none⟩) (by show w.heap.size ≠ w1.heap.size; omega) (.int .i64 ty)) (p := ⟨w1.heap.size, 7, none⟩) (by show w.heap.size ≠ w1.heap.size; omega) (.int .i64 tz))
    have R9 := Lib.hid (ItAt.far (ItAt.far (ItAt.far R8.out (p := ⟨w1.heap.size, 5, none⟩) (by show (w.heap.size + 1) ≠ w1.heap.size; omega) (.int .i64 tx)) (p := ⟨w1.heap.size, 6, none⟩) (by show (w.heap.size + 1) ≠ w1.heap.size; omega) (.int .i64 ty)) (p := ⟨w1.heap.size, 7, none⟩) (by show (w.heap.size + 1) ≠ w1.heap.size; omega) (.int .i64 tz))
    have H9 := Lib.hid (((H8.out.s5 tx).s6 ty).s7 tz)
    clear f5 r5 f6 r6 f7 r7 I8 F8 R8 H8
    refine HK10.out _ _ ⟨F9.out.cell' 0 rfl, F9.out.cell' 1 rfl, F9.out.cell' 2 rfl⟩ ?_
    clear HK10
    refine wpAnyH_done (by kernel_rfl) ?_ _
    obtain ⟨o10, ho10, H9⟩ : ∃ o, Hid (o = _) ∧ Hid (ItAt _ w1.heap.size o) := ⟨_, Lib.hid rfl, H9⟩
    refine on_told (fun W => GI B g a n c z w W ∧ Blk W w.heap.size 23 #[.int .i64 x, .int .i64 y, .int .i64 u] ∧ ItAt W (w.heap.size + 1) zeroI ∧ ItAt W w1.heap.size o10) ⟨I9.out, F9.out, R9.out, H9.out⟩ ?_
    clear I9 F9 R9 H9
    rintro W10 ⟨i10, f10, r10, h10⟩
    have I10 := Lib.hid i10
    have F10 := Lib.hid f10
    have R10 := Lib.hid r10
    have H10 := Lib.hid h10
    clear i10 f10 r10 h10
    go_simp
    go_wp2_with fail
    refine (range_any _ B g a n c z 1 90000 I10.out.src (by omega) (by omega) (by omega)).mono ?_
    rintro e w11 ⟨fd, kfd, hlfd, hhfd, rfl, ss, gg⟩
    have I11 := Lib.hid (I10.out.next ss gg)
    have F11 := Lib.hid (Blk.grown F10.out gg (by intro e; injection e; omega))
    have R11 := Lib.hid (Blk.grown R10.out gg (by intro e; injection e; omega))
    have H11 := Lib.hid (Blk.grown H10.out gg (by intro e; injection e; omega))
    have zz11 := gg.size
    clear I10 F10 R10 H10 gg ss
    have H11 : Hid (ItAt w11 w1.heap.size _) := H11
    have R11 : Hid (ItAt w11 (w.heap.size + 1) _) := R11
    go_wp2_with fail
    refine (next_any _ B g a n c z 5 I11.out.src (by omega) (by omega)).mono ?_
    rintro e w12 ⟨pr, kpr, hlpr, hhpr, rfl, ss, gg⟩
    have I12 := Lib.hid (I11.out.next ss gg)
    have F12 := Lib.hid (Blk.grown F11.out gg (by intro e; injection e; omega))
    have R12 := Lib.hid (Blk.grown R11.out gg (by intro e; injection e; omega))
    have H12 := Lib.hid (Blk.grown H11.out gg (by intro e; injection e; omega))
    have zz12 := gg.size
    clear I11 F11 R11 H11 gg ss
    have H12 : Hid (ItAt w12 w1.heap.size _) := H12
    have R12 : Hid (ItAt w12 (w.heap.size + 1) _) := R12
    go_wp2_with fail
    refine (next_any _ B g a n c z 50 I12.out.src (by omega) (by omega)).mono ?_
    rintro e w13 ⟨bl, kbl, hlbl, hhbl, rfl, ss, gg⟩
    have I13 := Lib.hid (I12.out.next ss gg)
    have F13 := Lib.hid (Blk.grown F12.out gg (by intro e; injection e; omega))
    have R13 := Lib.hid (Blk.grown R12.out gg (by intro e; injection e; omega))
    have H13 := Lib.hid (Blk.grown H12.out gg (by intro e; injection e; omega))
    have zz13 := gg.size
    clear I12 F12 R12 H12 gg ss
    have H13 : Hid (ItAt w13 w1.heap.size _) := H13
    have R13 : Hid (ItAt w13 (w.heap.size + 1) _) := R13
    have f14 := Blk.frozen H13.out 14
    have r14 := H13.out.c14
    have f15 := Blk.frozen H13.out 15
    have r15 := H13.out.c15
    have f18 := Blk.frozen H13.out 18
    have r18 := H13.out.c18
    obtain ⟨o14, ho14, H14⟩ : ∃ o, Hid (o = _) ∧ Hid (ItAt _ w1.heap.size o) := ⟨_, Lib.hid rfl, Lib.hid (((H13.out.s14 fd).s15 ((pr == 0))).s18 bl)⟩
    have I14 := Lib.hid (((I13.out.set (b := w1.heap.size) (by omega) 14 (.int .i64 fd)).set (b := w1.heap.size) (by omega) 15 (.bool ((pr == 0)))).set (b := w1.heap.size) (by omega) 18 (.int .i64 bl))
    have R14 := Lib.hid (ItAt.far (ItAt.far (ItAt.far R13.out (p := ⟨w1.heap.size, 14, none⟩) (by show (w.heap.size + 1) ≠ w1.heap.size; omega) (.int .i64 fd)) (p := ⟨w1.heap.size, 15, none⟩) (by show (w.heap.size + 1) ≠ w1.heap.size; omega) (.bool ((pr == 0)))) (p := ⟨w1.heap.size, 18, none⟩) (by show (w.heap.size + 1) ≠ w1.heap.size; omega) (.int .i64 bl))
    have lt1 := R13.out.lt
    have lt2 := H13.out.lt
    clear I13 F13 R13 H13
    go_wp2_with (first | ((with_reducible refine go_loadI (.tmp 5) w1.heap.size o14 (by with_unfolding_all rfl) H14.out ?_)) | ((with_reducible refine go_storeI (.tmp 4) (.tmp 147) (w.heap.size + 1) o14 zeroI (by with_unfolding_all rfl) (by with_unfolding_all rfl) R14.out ?_)))
    refine bodyPost_ret (results_cell_row rfl _ _ (w.heap.size + 1) 25 (itA o14) (0, 0) _ rfl (show Blk _ _ _ _ from ItAt.row (o := zeroI) R14.out _) Tryz.underlying25 rfl (by kernel_rfl)) rfl ?_
    exact ⟨o14, (by rw [ho14.out, ho10.out]; exact ⟨by simp [zeroI], by simp [zeroI], fun _ => ⟨rfl, rfl, rfl⟩⟩), rfl, I14.out.row (by omega) _⟩
  · go_wp2_with fail
    refine wp_region_held_drew (S := fun W => W.cell? ⟨w.heap.size, 0, none⟩ = some (.int .i64 x) ∧ W.cell? ⟨w.heap.size, 1, none⟩ = some (.int .i64 y) ∧ W.cell? ⟨w.heap.size, 2, none⟩ = some (.int .i64 u)) (by kernel_rfl) ⟨F3.out.cell' 0 rfl, F3.out.cell' 1 rfl, F3.out.cell' 2 rfl⟩ fun hS0 => ?_
    have I4 := Lib.hid I3.out.drew
    have F4 := Lib.hid F3.out.drew
    have R4 := Lib.hid R3.out.drew
    have H4 := Lib.hid H3.out.drew
    clear I3 F3 R3 H3
    refine take_first 0 (v := .agg #[.int .i64 x, .int .i64 y, .int .i64 u]) rfl (by kernel_rfl) (by kernel_rfl) (by kernel_rfl) (fun _ _ _ h => h) rfl (fun W' hW' => by obtain ⟨q0, q1, q2⟩ := hW'; go_simp) hS0 ?_
    refine take_first 1 (v := .agg #[.int .i64 x, .int .i64 y, .int .i64 u]) rfl (by kernel_rfl) (by kernel_rfl) (by kernel_rfl) (fun _ _ _ h => h) rfl (fun W' hW' => by obtain ⟨q0, q1, q2⟩ := hW'; go_simp) hS0 ?_
    refine take_first 2 (v := .pointer (some ⟨g, 0, none⟩)) rfl (by kernel_rfl) (by kernel_rfl) (by kernel_rfl) (fun _ _ _ h => h) rfl (fun W' hW' => by go_simp) hS0 ?_
    refine take_first 5 (v := .pointer (some ⟨w1.heap.size, 0, none⟩)) rfl (by kernel_rfl) (by kernel_rfl) (by kernel_rfl) (fun _ _ _ h => h) rfl (fun W' hW' => by go_simp) hS0 ?_
    refine one_next 3 (by kernel_rfl) rfl rfl fun K3 hK3 => ?_
    have HK3 := Lib.hid hK3
    clear hK3
    go_simp
    refine (svec_any _ B g a n c z 300 I4.out.src (by omega) (by omega)).mono ?_
    rintro e w5 ⟨dx, dy, du, hdx, hdy, hdu, rfl, gg⟩
    have I5 := Lib.hid (I4.out.trans gg)
    have F5 := Lib.hid (Blk.grown F4.out gg.gr (by intro e; injection e; omega))
    have R5 := Lib.hid (Blk.grown R4.out gg.gr (by intro e; injection e; omega))
    have H5 := Lib.hid (Blk.grown H4.out gg.gr (by intro e; injection e; omega))
    have zz5 := gg.gr.size
    clear I4 F4 R4 H4 gg
    have H5 : Hid (ItAt w5 w1.heap.size _) := H5
    have R5 : Hid (ItAt w5 (w.heap.size + 1) _) := R5
    refine HK3.out _ _ ⟨F5.out.cell' 0 rfl, F5.out.cell' 1 rfl, F5.out.cell' 2 rfl⟩ ?_
    clear HK3
    refine one_next 4 (by kernel_rfl) rfl rfl fun K4 hK4 => ?_
    have HK4 := Lib.hid hK4
    clear hK4
    go_simp
    refine (add_some _ _ _ _ _ _ _).mono ?_
    rintro e w6 ⟨tx, ty, tz, rfl, bb⟩
    have I6 := Lib.hid (I5.out.below bb)
    have F6 := Lib.hid (Blk.below F5.out bb F5.out.lt)
    have R6 := Lib.hid (Blk.below R5.out bb R5.out.lt)
    have H6 := Lib.hid (Blk.below H5.out bb H5.out.lt)
    have zz6 := bb.size
    clear I5 F5 R5 H5 bb
    have H6 : Hid (ItAt w6 w1.heap.size _) := H6
    have R6 : Hid (ItAt w6 (w.heap.size + 1) _) := R6
    refine HK4.out _ _ ⟨F6.out.cell' 0 rfl, F6.out.cell' 1 rfl, F6.out.cell' 2 rfl⟩ ?_
    clear HK4
    have f0 := Blk.frozen H6.out 0
    have r0 := H6.out.c0
    refine one_next 6 (by kernel_rfl) rfl rfl fun K6 hK6 => ?_
    have HK6 := Lib.hid hK6
    clear hK6
    go_simp
    have I7 := Lib.hid (I6.out.set (b := w1.heap.size) (by omega) 0 (.int .i64 2))
    have F7 := Lib.hid (Blk.skip F6.out (p := ⟨w1.heap.size, 0, none⟩) (by show w.heap.size ≠ w1.heap.size; omega) (.int .i64 2))
    have R7 := Lib.hid (ItAt.far R6.out (p := ⟨w1.heap.size, 0, none⟩) (by show (w.heap.size + 1) ≠ w1.heap.size; omega) (.int .i64 2))
    have H7 := Lib.hid (H6.out.s0 2)
    clear f0 r0 I6 F6 R6 H6
    refine HK6.out _ _ ⟨F7.out.cell' 0 rfl, F7.out.cell' 1 rfl, F7.out.cell' 2 rfl⟩ ?_
    clear HK6
    refine take_first 7 (v := .pointer (some ⟨w1.heap.size, 2, none⟩)) rfl (by kernel_rfl) (by kernel_rfl) (by kernel_rfl) (fun _ _ _ h => h) rfl (fun W' hW' => by go_simp) ⟨F7.out.cell' 0 rfl, F7.out.cell' 1 rfl, F7.out.cell' 2 rfl⟩ ?_
    have f2 := Blk.frozen H7.out 2
    have r2 := H7.out.c2
    have f3 := Blk.frozen H7.out 3
    have r3 := H7.out.c3
    have f4 := Blk.frozen H7.out 4
    have r4 := H7.out.c4
    refine one_next 8 (by kernel_rfl) rfl rfl fun K8 hK8 => ?_
    have HK8 := Lib.hid hK8
    clear hK8
    go_simp
    have I8 := Lib.hid (((I7.out.set (b := w1.heap.size) (by omega) 2 (.int .i64 x)).set (b := w1.heap.size) (by omega) 3 (.int .i64 y)).set (b := w1.heap.size) (by omega) 4 (.int .i64 u))
    have F8 := Lib.hid (Blk.skip (Blk.skip (Blk.skip F7.out (p := ⟨w1.heap.size, 2, none⟩) (by show w.heap.size ≠ w1.heap.size; omega) (.int .i64 x)) (p := ⟨w1.heap.size, 3, none⟩) (by show w.heap.size ≠ w1.heap.size; omega) (.int .i64 y)) (p := ⟨w1.heap.size, 4, none⟩) (by show w.heap.size ≠ w1.heap.size; omega) (.int .i64 u))
    have R8 := Lib.hid (ItAt.far (ItAt.far (ItAt.far R7.out (p := ⟨w1.heap.size, 2, none⟩) (by show (w.heap.size + 1) ≠ w1.heap.size; omega) (.int .i64 x)) (p := ⟨w1.heap.size, 3, none⟩) (by show (w.heap.size + 1) ≠ w1.heap.size; omega) (.int .i64 y)) (p := ⟨w1.heap.size, 4, none⟩) (by show (w.heap.size + 1) ≠ w1.heap.size; omega) (.int .i64 u))
    have H8 := Lib.hid (((H7.out.s2 x).s3 y).s4 u)
    clear f2 r2 f3 r3 f4 r4 I7 F7 R7 H7
    refine HK8.out _ _ ⟨F8.out.cell' 0 rfl, F8.out.cell' 1 rfl, F8.out.cell' 2 rfl⟩ ?_
    clear HK8
    refine take_first 9 (v := .pointer (some ⟨w1.heap.size, 5, none⟩)) rfl (by kernel_rfl) (by kernel_rfl) (by kernel_rfl) (fun _ _ _ h => h) rfl (fun W' hW' => by go_simp) ⟨F8.out.cell' 0 rfl, F8.out.cell' 1 rfl, F8.out.cell' 2 rfl⟩ ?_
    have f5 := Blk.frozen H8.out 5
    have r5 := H8.out.c5
    have f6 := Blk.frozen H8.out 6
    have r6 := H8.out.c6
    have f7 := Blk.frozen H8.out 7
    have r7 := H8.out.c7
    refine one_next 10 (by kernel_rfl) rfl rfl fun K10 hK10 => ?_
    have HK10 := Lib.hid hK10
    clear hK10
    go_simp
    have I9 := Lib.hid (((I8.out.set (b := w1.heap.size) (by omega) 5 (.int .i64 tx)).set (b := w1.heap.size) (by omega) 6 (.int .i64 ty)).set (b := w1.heap.size) (by omega) 7 (.int .i64 tz))
    have F9 := Lib.hid (Blk.skip (Blk.skip (Blk.skip F8.out (p := ⟨w1.heap.size, 5, none⟩) (by show w.heap.size ≠ w1.heap.size; omega) (.int .i64 tx)) (p := ⟨w1.heap.size, 6, none⟩) (by show w.heap.size ≠ w1.heap.size; omega) (.int .i64 ty)) (p := ⟨w1.heap.size, 7, none⟩) (by show w.heap.size ≠ w1.heap.size; omega) (.int .i64 tz))
    have R9 := Lib.hid (ItAt.far (ItAt.far (ItAt.far R8.out (p := ⟨w1.heap.size, 5, none⟩) (by show (w.heap.size + 1) ≠ w1.heap.size; omega) (.int .i64 tx)) (p := ⟨w1.heap.size, 6, none⟩) (by show (w.heap.size + 1) ≠ w1.heap.size; omega) (.int .i64 ty)) (p := ⟨w1.heap.size, 7, none⟩) (by show (w.heap.size + 1) ≠ w1.heap.size; omega) (.int .i64 tz))
    have H9 := Lib.hid (((H8.out.s5 tx).s6 ty).s7 tz)
    clear f5 r5 f6 r6 f7 r7 I8 F8 R8 H8
    refine HK10.out _ _ ⟨F9.out.cell' 0 rfl, F9.out.cell' 1 rfl, F9.out.cell' 2 rfl⟩ ?_
    clear HK10
    refine wpAnyH_done (by kernel_rfl) ?_ _
    obtain ⟨o10, ho10, H9⟩ : ∃ o, Hid (o = _) ∧ Hid (ItAt _ w1.heap.size o) := ⟨_, Lib.hid rfl, H9⟩
    refine on_told (fun W => GI B g a n c z w W ∧ Blk W w.heap.size 23 #[.int .i64 x, .int .i64 y, .int .i64 u] ∧ ItAt W (w.heap.size + 1) zeroI ∧ ItAt W w1.heap.size o10) ⟨I9.out, F9.out, R9.out, H9.out⟩ ?_
    clear I9 F9 R9 H9
    rintro W10 ⟨i10, f10, r10, h10⟩
    have I10 := Lib.hid i10
    have F10 := Lib.hid f10
    have R10 := Lib.hid r10
    have H10 := Lib.hid h10
    clear i10 f10 r10 h10
    go_simp
    go_wp2_with fail
    refine (range_any _ B g a n c z 1 90000 I10.out.src (by omega) (by omega) (by omega)).mono ?_
    rintro e w11 ⟨fd, kfd, hlfd, hhfd, rfl, ss, gg⟩
    have I11 := Lib.hid (I10.out.next ss gg)
    have F11 := Lib.hid (Blk.grown F10.out gg (by intro e; injection e; omega))
    have R11 := Lib.hid (Blk.grown R10.out gg (by intro e; injection e; omega))
    have H11 := Lib.hid (Blk.grown H10.out gg (by intro e; injection e; omega))
    have zz11 := gg.size
    clear I10 F10 R10 H10 gg ss
    have H11 : Hid (ItAt w11 w1.heap.size _) := H11
    have R11 : Hid (ItAt w11 (w.heap.size + 1) _) := R11
    go_wp2_with fail
    refine (next_any _ B g a n c z 5 I11.out.src (by omega) (by omega)).mono ?_
    rintro e w12 ⟨pr, kpr, hlpr, hhpr, rfl, ss, gg⟩
    have I12 := Lib.hid (I11.out.next ss gg)
    have F12 := Lib.hid (Blk.grown F11.out gg (by intro e; injection e; omega))
    have R12 := Lib.hid (Blk.grown R11.out gg (by intro e; injection e; omega))
    have H12 := Lib.hid (Blk.grown H11.out gg (by intro e; injection e; omega))
    have zz12 := gg.size
    clear I11 F11 R11 H11 gg ss
    have H12 : Hid (ItAt w12 w1.heap.size _) := H12
    have R12 : Hid (ItAt w12 (w.heap.size + 1) _) := R12
    go_wp2_with fail
    refine (next_any _ B g a n c z 50 I12.out.src (by omega) (by omega)).mono ?_
    rintro e w13 ⟨bl, kbl, hlbl, hhbl, rfl, ss, gg⟩
    have I13 := Lib.hid (I12.out.next ss gg)
    have F13 := Lib.hid (Blk.grown F12.out gg (by intro e; injection e; omega))
    have R13 := Lib.hid (Blk.grown R12.out gg (by intro e; injection e; omega))
    have H13 := Lib.hid (Blk.grown H12.out gg (by intro e; injection e; omega))
    have zz13 := gg.size
    clear I12 F12 R12 H12 gg ss
    have H13 : Hid (ItAt w13 w1.heap.size _) := H13
    have R13 : Hid (ItAt w13 (w.heap.size + 1) _) := R13
    have f14 := Blk.frozen H13.out 14
    have r14 := H13.out.c14
    have f15 := Blk.frozen H13.out 15
    have r15 := H13.out.c15
    have f18 := Blk.frozen H13.out 18
    have r18 := H13.out.c18
    obtain ⟨o14, ho14, H14⟩ : ∃ o, Hid (o = _) ∧ Hid (ItAt _ w1.heap.size o) := ⟨_, Lib.hid rfl, Lib.hid (((H13.out.s14 fd).s15 ((pr == 0))).s18 bl)⟩
    have I14 := Lib.hid (((I13.out.set (b := w1.heap.size) (by omega) 14 (.int .i64 fd)).set (b := w1.heap.size) (by omega) 15 (.bool ((pr == 0)))).set (b := w1.heap.size) (by omega) 18 (.int .i64 bl))
    have R14 := Lib.hid (ItAt.far (ItAt.far (ItAt.far R13.out (p := ⟨w1.heap.size, 14, none⟩) (by show (w.heap.size + 1) ≠ w1.heap.size; omega) (.int .i64 fd)) (p := ⟨w1.heap.size, 15, none⟩) (by show (w.heap.size + 1) ≠ w1.heap.size; omega) (.bool ((pr == 0)))) (p := ⟨w1.heap.size, 18, none⟩) (by show (w.heap.size + 1) ≠ w1.heap.size; omega) (.int .i64 bl))
    have lt1 := R13.out.lt
    have lt2 := H13.out.lt
    clear I13 F13 R13 H13
    go_wp2_with (first | ((with_reducible refine go_loadI (.tmp 5) w1.heap.size o14 (by with_unfolding_all rfl) H14.out ?_)) | ((with_reducible refine go_storeI (.tmp 4) (.tmp 147) (w.heap.size + 1) o14 zeroI (by with_unfolding_all rfl) (by with_unfolding_all rfl) R14.out ?_)))
    refine bodyPost_ret (results_cell_row rfl _ _ (w.heap.size + 1) 25 (itA o14) (0, 0) _ rfl (show Blk _ _ _ _ from ItAt.row (o := zeroI) R14.out _) Tryz.underlying25 rfl (by kernel_rfl)) rfl ?_
    exact ⟨o14, (by rw [ho14.out, ho10.out]; exact ⟨by simp [zeroI], by simp [zeroI], fun _ => ⟨rfl, rfl, rfl⟩⟩), rfl, I14.out.row (by omega) _⟩
  · go_wp2_with fail
    refine wp_region_held_drew (S := fun W => W.cell? ⟨w.heap.size, 0, none⟩ = some (.int .i64 x) ∧ W.cell? ⟨w.heap.size, 1, none⟩ = some (.int .i64 y) ∧ W.cell? ⟨w.heap.size, 2, none⟩ = some (.int .i64 u)) (by kernel_rfl) ⟨F3.out.cell' 0 rfl, F3.out.cell' 1 rfl, F3.out.cell' 2 rfl⟩ fun hS0 => ?_
    have I4 := Lib.hid I3.out.drew
    have F4 := Lib.hid F3.out.drew
    have R4 := Lib.hid R3.out.drew
    have H4 := Lib.hid H3.out.drew
    clear I3 F3 R3 H3
    refine take_first 0 (v := .agg #[.int .i64 x, .int .i64 y, .int .i64 u]) rfl (by kernel_rfl) (by kernel_rfl) (by kernel_rfl) (fun _ _ _ h => h) rfl (fun W' hW' => by obtain ⟨q0, q1, q2⟩ := hW'; go_simp) hS0 ?_
    refine take_first 1 (v := .agg #[.int .i64 x, .int .i64 y, .int .i64 u]) rfl (by kernel_rfl) (by kernel_rfl) (by kernel_rfl) (fun _ _ _ h => h) rfl (fun W' hW' => by obtain ⟨q0, q1, q2⟩ := hW'; go_simp) hS0 ?_
    refine take_first 2 (v := .pointer (some ⟨g, 0, none⟩)) rfl (by kernel_rfl) (by kernel_rfl) (by kernel_rfl) (fun _ _ _ h => h) rfl (fun W' hW' => by go_simp) hS0 ?_
    refine take_first 5 (v := .pointer (some ⟨w1.heap.size, 0, none⟩)) rfl (by kernel_rfl) (by kernel_rfl) (by kernel_rfl) (fun _ _ _ h => h) rfl (fun W' hW' => by go_simp) hS0 ?_
    refine one_next 3 (by kernel_rfl) rfl rfl fun K3 hK3 => ?_
    have HK3 := Lib.hid hK3
    clear hK3
    go_simp
    refine (svec_any _ B g a n c z 300 I4.out.src (by omega) (by omega)).mono ?_
    rintro e w5 ⟨dx, dy, du, hdx, hdy, hdu, rfl, gg⟩
    have I5 := Lib.hid (I4.out.trans gg)
    have F5 := Lib.hid (Blk.grown F4.out gg.gr (by intro e; injection e; omega))
    have R5 := Lib.hid (Blk.grown R4.out gg.gr (by intro e; injection e; omega))
    have H5 := Lib.hid (Blk.grown H4.out gg.gr (by intro e; injection e; omega))
    have zz5 := gg.gr.size
    clear I4 F4 R4 H4 gg
    have H5 : Hid (ItAt w5 w1.heap.size _) := H5
    have R5 : Hid (ItAt w5 (w.heap.size + 1) _) := R5
    refine HK3.out _ _ ⟨F5.out.cell' 0 rfl, F5.out.cell' 1 rfl, F5.out.cell' 2 rfl⟩ ?_
    clear HK3
    refine one_next 4 (by kernel_rfl) rfl rfl fun K4 hK4 => ?_
    have HK4 := Lib.hid hK4
    clear hK4
    go_simp
    refine (add_some _ _ _ _ _ _ _).mono ?_
    rintro e w6 ⟨tx, ty, tz, rfl, bb⟩
    have I6 := Lib.hid (I5.out.below bb)
    have F6 := Lib.hid (Blk.below F5.out bb F5.out.lt)
    have R6 := Lib.hid (Blk.below R5.out bb R5.out.lt)
    have H6 := Lib.hid (Blk.below H5.out bb H5.out.lt)
    have zz6 := bb.size
    clear I5 F5 R5 H5 bb
    have H6 : Hid (ItAt w6 w1.heap.size _) := H6
    have R6 : Hid (ItAt w6 (w.heap.size + 1) _) := R6
    refine HK4.out _ _ ⟨F6.out.cell' 0 rfl, F6.out.cell' 1 rfl, F6.out.cell' 2 rfl⟩ ?_
    clear HK4
    have f0 := Blk.frozen H6.out 0
    have r0 := H6.out.c0
    refine one_next 6 (by kernel_rfl) rfl rfl fun K6 hK6 => ?_
    have HK6 := Lib.hid hK6
    clear hK6
    go_simp
    have I7 := Lib.hid (I6.out.set (b := w1.heap.size) (by omega) 0 (.int .i64 2))
    have F7 := Lib.hid (Blk.skip F6.out (p := ⟨w1.heap.size, 0, none⟩) (by show w.heap.size ≠ w1.heap.size; omega) (.int .i64 2))
    have R7 := Lib.hid (ItAt.far R6.out (p := ⟨w1.heap.size, 0, none⟩) (by show (w.heap.size + 1) ≠ w1.heap.size; omega) (.int .i64 2))
    have H7 := Lib.hid (H6.out.s0 2)
    clear f0 r0 I6 F6 R6 H6
    refine HK6.out _ _ ⟨F7.out.cell' 0 rfl, F7.out.cell' 1 rfl, F7.out.cell' 2 rfl⟩ ?_
    clear HK6
    refine take_first 7 (v := .pointer (some ⟨w1.heap.size, 2, none⟩)) rfl (by kernel_rfl) (by kernel_rfl) (by kernel_rfl) (fun _ _ _ h => h) rfl (fun W' hW' => by go_simp) ⟨F7.out.cell' 0 rfl, F7.out.cell' 1 rfl, F7.out.cell' 2 rfl⟩ ?_
    have f2 := Blk.frozen H7.out 2
    have r2 := H7.out.c2
    have f3 := Blk.frozen H7.out 3
    have r3 := H7.out.c3
    have f4 := Blk.frozen H7.out 4
    have r4 := H7.out.c4
    refine one_next 8 (by kernel_rfl) rfl rfl fun K8 hK8 => ?_
    have HK8 := Lib.hid hK8
    clear hK8
    go_simp
    have I8 := Lib.hid (((I7.out.set (b := w1.heap.size) (by omega) 2 (.int .i64 x)).set (b := w1.heap.size) (by omega) 3 (.int .i64 y)).set (b := w1.heap.size) (by omega) 4 (.int .i64 u))
    have F8 := Lib.hid (Blk.skip (Blk.skip (Blk.skip F7.out (p := ⟨w1.heap.size, 2, none⟩) (by show w.heap.size ≠ w1.heap.size; omega) (.int .i64 x)) (p := ⟨w1.heap.size, 3, none⟩) (by show w.heap.size ≠ w1.heap.size; omega) (.int .i64 y)) (p := ⟨w1.heap.size, 4, none⟩) (by show w.heap.size ≠ w1.heap.size; omega) (.int .i64 u))
    have R8 := Lib.hid (ItAt.far (ItAt.far (ItAt.far R7.out (p := ⟨w1.heap.size, 2, none⟩) (by show (w.heap.size + 1) ≠ w1.heap.size; omega) (.int .i64 x)) (p := ⟨w1.heap.size, 3, none⟩) (by show (w.heap.size + 1) ≠ w1.heap.size; omega) (.int .i64 y)) (p := ⟨w1.heap.size, 4, none⟩) (by show (w.heap.size + 1) ≠ w1.heap.size; omega) (.int .i64 u))
    have H8 := Lib.hid (((H7.out.s2 x).s3 y).s4 u)
    clear f2 r2 f3 r3 f4 r4 I7 F7 R7 H7
    refine HK8.out _ _ ⟨F8.out.cell' 0 rfl, F8.out.cell' 1 rfl, F8.out.cell' 2 rfl⟩ ?_
    clear HK8
    refine take_first 9 (v := .pointer (some ⟨w1.heap.size, 5, none⟩)) rfl (by kernel_rfl) (by kernel_rfl) (by kernel_rfl) (fun _ _ _ h => h) rfl (fun W' hW' => by go_simp) ⟨F8.out.cell' 0 rfl, F8.out.cell' 1 rfl, F8.out.cell' 2 rfl⟩ ?_
    have f5 := Blk.frozen H8.out 5
    have r5 := H8.out.c5
    have f6 := Blk.frozen H8.out 6
    have r6 := H8.out.c6
    have f7 := Blk.frozen H8.out 7
    have r7 := H8.out.c7
    refine one_next 10 (by kernel_rfl) rfl rfl fun K10 hK10 => ?_
    have HK10 := Lib.hid hK10
    clear hK10
    go_simp
    have I9 := Lib.hid (((I8.out.set (b := w1.heap.size) (by omega) 5 (.int .i64 tx)).set (b := w1.heap.size) (by omega) 6 (.int .i64 ty)).set (b := w1.heap.size) (by omega) 7 (.int .i64 tz))
    have F9 := Lib.hid (Blk.skip (Blk.skip (Blk.skip F8.out (p := ⟨w1.heap.size, 5, none⟩) (by show w.heap.size ≠ w1.heap.size; omega) (.int .i64 tx)) (p := ⟨w1.heap.size, 6, none⟩) (by show w.heap.size ≠ w1.heap.size; omega) (.int .i64 ty)) (p := ⟨w1.heap.size, 7, none⟩) (by show w.heap.size ≠ w1.heap.size; omega) (.int .i64 tz))
    have R9 := Lib.hid (ItAt.far (ItAt.far (ItAt.far R8.out (p := ⟨w1.heap.size, 5, none⟩) (by show (w.heap.size + 1) ≠ w1.heap.size; omega) (.int .i64 tx)) (p := ⟨w1.heap.size, 6, none⟩) (by show (w.heap.size + 1) ≠ w1.heap.size; omega) (.int .i64 ty)) (p := ⟨w1.heap.size, 7, none⟩) (by show (w.heap.size + 1) ≠ w1.heap.size; omega) (.int .i64 tz))
    have H9 := Lib.hid (((H8.out.s5 tx).s6 ty).s7 tz)
    clear f5 r5 f6 r6 f7 r7 I8 F8 R8 H8
    refine HK10.out _ _ ⟨F9.out.cell' 0 rfl, F9.out.cell' 1 rfl, F9.out.cell' 2 rfl⟩ ?_
    clear HK10
    refine wpAnyH_done (by kernel_rfl) ?_ _
    obtain ⟨o10, ho10, H9⟩ : ∃ o, Hid (o = _) ∧ Hid (ItAt _ w1.heap.size o) := ⟨_, Lib.hid rfl, H9⟩
    refine on_told (fun W => GI B g a n c z w W ∧ Blk W w.heap.size 23 #[.int .i64 x, .int .i64 y, .int .i64 u] ∧ ItAt W (w.heap.size + 1) zeroI ∧ ItAt W w1.heap.size o10) ⟨I9.out, F9.out, R9.out, H9.out⟩ ?_
    clear I9 F9 R9 H9
    rintro W10 ⟨i10, f10, r10, h10⟩
    have I10 := Lib.hid i10
    have F10 := Lib.hid f10
    have R10 := Lib.hid r10
    have H10 := Lib.hid h10
    clear i10 f10 r10 h10
    go_simp
    go_wp2_with fail
    refine (range_any _ B g a n c z 1 90000 I10.out.src (by omega) (by omega) (by omega)).mono ?_
    rintro e w11 ⟨fd, kfd, hlfd, hhfd, rfl, ss, gg⟩
    have I11 := Lib.hid (I10.out.next ss gg)
    have F11 := Lib.hid (Blk.grown F10.out gg (by intro e; injection e; omega))
    have R11 := Lib.hid (Blk.grown R10.out gg (by intro e; injection e; omega))
    have H11 := Lib.hid (Blk.grown H10.out gg (by intro e; injection e; omega))
    have zz11 := gg.size
    clear I10 F10 R10 H10 gg ss
    have H11 : Hid (ItAt w11 w1.heap.size _) := H11
    have R11 : Hid (ItAt w11 (w.heap.size + 1) _) := R11
    go_wp2_with fail
    refine (next_any _ B g a n c z 5 I11.out.src (by omega) (by omega)).mono ?_
    rintro e w12 ⟨pr, kpr, hlpr, hhpr, rfl, ss, gg⟩
    have I12 := Lib.hid (I11.out.next ss gg)
    have F12 := Lib.hid (Blk.grown F11.out gg (by intro e; injection e; omega))
    have R12 := Lib.hid (Blk.grown R11.out gg (by intro e; injection e; omega))
    have H12 := Lib.hid (Blk.grown H11.out gg (by intro e; injection e; omega))
    have zz12 := gg.size
    clear I11 F11 R11 H11 gg ss
    have H12 : Hid (ItAt w12 w1.heap.size _) := H12
    have R12 : Hid (ItAt w12 (w.heap.size + 1) _) := R12
    go_wp2_with fail
    refine (next_any _ B g a n c z 50 I12.out.src (by omega) (by omega)).mono ?_
    rintro e w13 ⟨bl, kbl, hlbl, hhbl, rfl, ss, gg⟩
    have I13 := Lib.hid (I12.out.next ss gg)
    have F13 := Lib.hid (Blk.grown F12.out gg (by intro e; injection e; omega))
    have R13 := Lib.hid (Blk.grown R12.out gg (by intro e; injection e; omega))
    have H13 := Lib.hid (Blk.grown H12.out gg (by intro e; injection e; omega))
    have zz13 := gg.size
    clear I12 F12 R12 H12 gg ss
    have H13 : Hid (ItAt w13 w1.heap.size _) := H13
    have R13 : Hid (ItAt w13 (w.heap.size + 1) _) := R13
    have f14 := Blk.frozen H13.out 14
    have r14 := H13.out.c14
    have f15 := Blk.frozen H13.out 15
    have r15 := H13.out.c15
    have f18 := Blk.frozen H13.out 18
    have r18 := H13.out.c18
    obtain ⟨o14, ho14, H14⟩ : ∃ o, Hid (o = _) ∧ Hid (ItAt _ w1.heap.size o) := ⟨_, Lib.hid rfl, Lib.hid (((H13.out.s14 fd).s15 ((pr == 0))).s18 bl)⟩
    have I14 := Lib.hid (((I13.out.set (b := w1.heap.size) (by omega) 14 (.int .i64 fd)).set (b := w1.heap.size) (by omega) 15 (.bool ((pr == 0)))).set (b := w1.heap.size) (by omega) 18 (.int .i64 bl))
    have R14 := Lib.hid (ItAt.far (ItAt.far (ItAt.far R13.out (p := ⟨w1.heap.size, 14, none⟩) (by show (w.heap.size + 1) ≠ w1.heap.size; omega) (.int .i64 fd)) (p := ⟨w1.heap.size, 15, none⟩) (by show (w.heap.size + 1) ≠ w1.heap.size; omega) (.bool ((pr == 0)))) (p := ⟨w1.heap.size, 18, none⟩) (by show (w.heap.size + 1) ≠ w1.heap.size; omega) (.int .i64 bl))
    have lt1 := R13.out.lt
    have lt2 := H13.out.lt
    clear I13 F13 R13 H13
    go_wp2_with (first | ((with_reducible refine go_loadI (.tmp 5) w1.heap.size o14 (by with_unfolding_all rfl) H14.out ?_)) | ((with_reducible refine go_storeI (.tmp 4) (.tmp 147) (w.heap.size + 1) o14 zeroI (by with_unfolding_all rfl) (by with_unfolding_all rfl) R14.out ?_)))
    refine bodyPost_ret (results_cell_row rfl _ _ (w.heap.size + 1) 25 (itA o14) (0, 0) _ rfl (show Blk _ _ _ _ from ItAt.row (o := zeroI) R14.out _) Tryz.underlying25 rfl (by kernel_rfl)) rfl ?_
    exact ⟨o14, (by rw [ho14.out, ho10.out]; exact ⟨by simp [zeroI], by simp [zeroI], fun _ => ⟨rfl, rfl, rfl⟩⟩), rfl, I14.out.row (by omega) _⟩
  · go_wp2_with fail
    refine wp_region_held_drew (S := fun W => W.cell? ⟨w.heap.size, 0, none⟩ = some (.int .i64 x) ∧ W.cell? ⟨w.heap.size, 1, none⟩ = some (.int .i64 y) ∧ W.cell? ⟨w.heap.size, 2, none⟩ = some (.int .i64 u)) (by kernel_rfl) ⟨F3.out.cell' 0 rfl, F3.out.cell' 1 rfl, F3.out.cell' 2 rfl⟩ fun hS0 => ?_
    have I4 := Lib.hid I3.out.drew
    have F4 := Lib.hid F3.out.drew
    have R4 := Lib.hid R3.out.drew
    have H4 := Lib.hid H3.out.drew
    clear I3 F3 R3 H3
    refine take_first 0 (v := .agg #[.int .i64 x, .int .i64 y, .int .i64 u]) rfl (by kernel_rfl) (by kernel_rfl) (by kernel_rfl) (fun _ _ _ h => h) rfl (fun W' hW' => by obtain ⟨q0, q1, q2⟩ := hW'; go_simp) hS0 ?_
    refine take_first 1 (v := .agg #[.int .i64 x, .int .i64 y, .int .i64 u]) rfl (by kernel_rfl) (by kernel_rfl) (by kernel_rfl) (fun _ _ _ h => h) rfl (fun W' hW' => by obtain ⟨q0, q1, q2⟩ := hW'; go_simp) hS0 ?_
    refine take_first 2 (v := .pointer (some ⟨g, 0, none⟩)) rfl (by kernel_rfl) (by kernel_rfl) (by kernel_rfl) (fun _ _ _ h => h) rfl (fun W' hW' => by go_simp) hS0 ?_
    refine take_first 5 (v := .pointer (some ⟨w1.heap.size, 0, none⟩)) rfl (by kernel_rfl) (by kernel_rfl) (by kernel_rfl) (fun _ _ _ h => h) rfl (fun W' hW' => by go_simp) hS0 ?_
    refine one_next 3 (by kernel_rfl) rfl rfl fun K3 hK3 => ?_
    have HK3 := Lib.hid hK3
    clear hK3
    go_simp
    refine (svec_any _ B g a n c z 300 I4.out.src (by omega) (by omega)).mono ?_
    rintro e w5 ⟨dx, dy, du, hdx, hdy, hdu, rfl, gg⟩
    have I5 := Lib.hid (I4.out.trans gg)
    have F5 := Lib.hid (Blk.grown F4.out gg.gr (by intro e; injection e; omega))
    have R5 := Lib.hid (Blk.grown R4.out gg.gr (by intro e; injection e; omega))
    have H5 := Lib.hid (Blk.grown H4.out gg.gr (by intro e; injection e; omega))
    have zz5 := gg.gr.size
    clear I4 F4 R4 H4 gg
    have H5 : Hid (ItAt w5 w1.heap.size _) := H5
    have R5 : Hid (ItAt w5 (w.heap.size + 1) _) := R5
    refine HK3.out _ _ ⟨F5.out.cell' 0 rfl, F5.out.cell' 1 rfl, F5.out.cell' 2 rfl⟩ ?_
    clear HK3
    refine one_next 4 (by kernel_rfl) rfl rfl fun K4 hK4 => ?_
    have HK4 := Lib.hid hK4
    clear hK4
    go_simp
    refine (add_some _ _ _ _ _ _ _).mono ?_
    rintro e w6 ⟨tx, ty, tz, rfl, bb⟩
    have I6 := Lib.hid (I5.out.below bb)
    have F6 := Lib.hid (Blk.below F5.out bb F5.out.lt)
    have R6 := Lib.hid (Blk.below R5.out bb R5.out.lt)
    have H6 := Lib.hid (Blk.below H5.out bb H5.out.lt)
    have zz6 := bb.size
    clear I5 F5 R5 H5 bb
    have H6 : Hid (ItAt w6 w1.heap.size _) := H6
    have R6 : Hid (ItAt w6 (w.heap.size + 1) _) := R6
    refine HK4.out _ _ ⟨F6.out.cell' 0 rfl, F6.out.cell' 1 rfl, F6.out.cell' 2 rfl⟩ ?_
    clear HK4
    have f0 := Blk.frozen H6.out 0
    have r0 := H6.out.c0
    refine one_next 6 (by kernel_rfl) rfl rfl fun K6 hK6 => ?_
    have HK6 := Lib.hid hK6
    clear hK6
    go_simp
    have I7 := Lib.hid (I6.out.set (b := w1.heap.size) (by omega) 0 (.int .i64 2))
    have F7 := Lib.hid (Blk.skip F6.out (p := ⟨w1.heap.size, 0, none⟩) (by show w.heap.size ≠ w1.heap.size; omega) (.int .i64 2))
    have R7 := Lib.hid (ItAt.far R6.out (p := ⟨w1.heap.size, 0, none⟩) (by show (w.heap.size + 1) ≠ w1.heap.size; omega) (.int .i64 2))
    have H7 := Lib.hid (H6.out.s0 2)
    clear f0 r0 I6 F6 R6 H6
    refine HK6.out _ _ ⟨F7.out.cell' 0 rfl, F7.out.cell' 1 rfl, F7.out.cell' 2 rfl⟩ ?_
    clear HK6
    refine take_first 7 (v := .pointer (some ⟨w1.heap.size, 2, none⟩)) rfl (by kernel_rfl) (by kernel_rfl) (by kernel_rfl) (fun _ _ _ h => h) rfl (fun W' hW' => by go_simp) ⟨F7.out.cell' 0 rfl, F7.out.cell' 1 rfl, F7.out.cell' 2 rfl⟩ ?_
    have f2 := Blk.frozen H7.out 2
    have r2 := H7.out.c2
    have f3 := Blk.frozen H7.out 3
    have r3 := H7.out.c3
    have f4 := Blk.frozen H7.out 4
    have r4 := H7.out.c4
    refine one_next 8 (by kernel_rfl) rfl rfl fun K8 hK8 => ?_
    have HK8 := Lib.hid hK8
    clear hK8
    go_simp
    have I8 := Lib.hid (((I7.out.set (b := w1.heap.size) (by omega) 2 (.int .i64 x)).set (b := w1.heap.size) (by omega) 3 (.int .i64 y)).set (b := w1.heap.size) (by omega) 4 (.int .i64 u))
    have F8 := Lib.hid (Blk.skip (Blk.skip (Blk.skip F7.out (p := ⟨w1.heap.size, 2, none⟩) (by show w.heap.size ≠ w1.heap.size; omega) (.int .i64 x)) (p := ⟨w1.heap.size, 3, none⟩) (by show w.heap.size ≠ w1.heap.size; omega) (.int .i64 y)) (p := ⟨w1.heap.size, 4, none⟩) (by show w.heap.size ≠ w1.heap.size; omega) (.int .i64 u))
    have R8 := Lib.hid (ItAt.far (ItAt.far (ItAt.far R7.out (p := ⟨w1.heap.size, 2, none⟩) (by show (w.heap.size + 1) ≠ w1.heap.size; omega) (.int .i64 x)) (p := ⟨w1.heap.size, 3, none⟩) (by show (w.heap.size + 1) ≠ w1.heap.size; omega) (.int .i64 y)) (p := ⟨w1.heap.size, 4, none⟩) (by show (w.heap.size + 1) ≠ w1.heap.size; omega) (.int .i64 u))
    have H8 := Lib.hid (((H7.out.s2 x).s3 y).s4 u)
    clear f2 r2 f3 r3 f4 r4 I7 F7 R7 H7
    refine HK8.out _ _ ⟨F8.out.cell' 0 rfl, F8.out.cell' 1 rfl, F8.out.cell' 2 rfl⟩ ?_
    clear HK8
    refine take_first 9 (v := .pointer (some ⟨w1.heap.size, 5, none⟩)) rfl (by kernel_rfl) (by kernel_rfl) (by kernel_rfl) (fun _ _ _ h => h) rfl (fun W' hW' => by go_simp) ⟨F8.out.cell' 0 rfl, F8.out.cell' 1 rfl, F8.out.cell' 2 rfl⟩ ?_
    have f5 := Blk.frozen H8.out 5
    have r5 := H8.out.c5
    have f6 := Blk.frozen H8.out 6
    have r6 := H8.out.c6
    have f7 := Blk.frozen H8.out 7
    have r7 := H8.out.c7
    refine one_next 10 (by kernel_rfl) rfl rfl fun K10 hK10 => ?_
    have HK10 := Lib.hid hK10
    clear hK10
    go_simp
    have I9 := Lib.hid (((I8.out.set (b := w1.heap.size) (by omega) 5 (.int .i64 tx)).set (b := w1.heap.size) (by omega) 6 (.int .i64 ty)).set (b := w1.heap.size) (by omega) 7 (.int .i64 tz))
    have F9 := Lib.hid (Blk.skip (Blk.skip (Blk.skip F8.out (p := ⟨w1.heap.size, 5, none⟩) (by show w.heap.size ≠ w1.heap.size; omega) (.int .i64 tx)) (p := ⟨w1.heap.size, 6, none⟩) (by show w.heap.size ≠ w1.heap.size; omega) (.int .i64 ty)) (p := ⟨w1.heap.size, 7, none⟩) (by show w.heap.size ≠ w1.heap.size; omega) (.int .i64 tz))
    have R9 := Lib.hid (ItAt.far (ItAt.far (ItAt.far R8.out (p := ⟨w1.heap.size, 5, none⟩) (by show (w.heap.size + 1) ≠ w1.heap.size; omega) (.int .i64 tx)) (p := ⟨w1.heap.size, 6, none⟩) (by show (w.heap.size + 1) ≠ w1.heap.size; omega) (.int .i64 ty)) (p := ⟨w1.heap.size, 7, none⟩) (by show (w.heap.size + 1) ≠ w1.heap.size; omega) (.int .i64 tz))
    have H9 := Lib.hid (((H8.out.s5 tx).s6 ty).s7 tz)
    clear f5 r5 f6 r6 f7 r7 I8 F8 R8 H8
    refine HK10.out _ _ ⟨F9.out.cell' 0 rfl, F9.out.cell' 1 rfl, F9.out.cell' 2 rfl⟩ ?_
    clear HK10
    refine wpAnyH_done (by kernel_rfl) ?_ _
    obtain ⟨o10, ho10, H9⟩ : ∃ o, Hid (o = _) ∧ Hid (ItAt _ w1.heap.size o) := ⟨_, Lib.hid rfl, H9⟩
    refine on_told (fun W => GI B g a n c z w W ∧ Blk W w.heap.size 23 #[.int .i64 x, .int .i64 y, .int .i64 u] ∧ ItAt W (w.heap.size + 1) zeroI ∧ ItAt W w1.heap.size o10) ⟨I9.out, F9.out, R9.out, H9.out⟩ ?_
    clear I9 F9 R9 H9
    rintro W10 ⟨i10, f10, r10, h10⟩
    have I10 := Lib.hid i10
    have F10 := Lib.hid f10
    have R10 := Lib.hid r10
    have H10 := Lib.hid h10
    clear i10 f10 r10 h10
    go_simp
    go_wp2_with fail
    refine (range_any _ B g a n c z 1 90000 I10.out.src (by omega) (by omega) (by omega)).mono ?_
    rintro e w11 ⟨fd, kfd, hlfd, hhfd, rfl, ss, gg⟩
    have I11 := Lib.hid (I10.out.next ss gg)
    have F11 := Lib.hid (Blk.grown F10.out gg (by intro e; injection e; omega))
    have R11 := Lib.hid (Blk.grown R10.out gg (by intro e; injection e; omega))
    have H11 := Lib.hid (Blk.grown H10.out gg (by intro e; injection e; omega))
    have zz11 := gg.size
    clear I10 F10 R10 H10 gg ss
    have H11 : Hid (ItAt w11 w1.heap.size _) := H11
    have R11 : Hid (ItAt w11 (w.heap.size + 1) _) := R11
    go_wp2_with fail
    refine (next_any _ B g a n c z 5 I11.out.src (by omega) (by omega)).mono ?_
    rintro e w12 ⟨pr, kpr, hlpr, hhpr, rfl, ss, gg⟩
    have I12 := Lib.hid (I11.out.next ss gg)
    have F12 := Lib.hid (Blk.grown F11.out gg (by intro e; injection e; omega))
    have R12 := Lib.hid (Blk.grown R11.out gg (by intro e; injection e; omega))
    have H12 := Lib.hid (Blk.grown H11.out gg (by intro e; injection e; omega))
    have zz12 := gg.size
    clear I11 F11 R11 H11 gg ss
    have H12 : Hid (ItAt w12 w1.heap.size _) := H12
    have R12 : Hid (ItAt w12 (w.heap.size + 1) _) := R12
    go_wp2_with fail
    refine (next_any _ B g a n c z 50 I12.out.src (by omega) (by omega)).mono ?_
    rintro e w13 ⟨bl, kbl, hlbl, hhbl, rfl, ss, gg⟩
    have I13 := Lib.hid (I12.out.next ss gg)
    have F13 := Lib.hid (Blk.grown F12.out gg (by intro e; injection e; omega))
    have R13 := Lib.hid (Blk.grown R12.out gg (by intro e; injection e; omega))
    have H13 := Lib.hid (Blk.grown H12.out gg (by intro e; injection e; omega))
    have zz13 := gg.size
    clear I12 F12 R12 H12 gg ss
    have H13 : Hid (ItAt w13 w1.heap.size _) := H13
    have R13 : Hid (ItAt w13 (w.heap.size + 1) _) := R13
    have f14 := Blk.frozen H13.out 14
    have r14 := H13.out.c14
    have f15 := Blk.frozen H13.out 15
    have r15 := H13.out.c15
    have f18 := Blk.frozen H13.out 18
    have r18 := H13.out.c18
    obtain ⟨o14, ho14, H14⟩ : ∃ o, Hid (o = _) ∧ Hid (ItAt _ w1.heap.size o) := ⟨_, Lib.hid rfl, Lib.hid (((H13.out.s14 fd).s15 ((pr == 0))).s18 bl)⟩
    have I14 := Lib.hid (((I13.out.set (b := w1.heap.size) (by omega) 14 (.int .i64 fd)).set (b := w1.heap.size) (by omega) 15 (.bool ((pr == 0)))).set (b := w1.heap.size) (by omega) 18 (.int .i64 bl))
    have R14 := Lib.hid (ItAt.far (ItAt.far (ItAt.far R13.out (p := ⟨w1.heap.size, 14, none⟩) (by show (w.heap.size + 1) ≠ w1.heap.size; omega) (.int .i64 fd)) (p := ⟨w1.heap.size, 15, none⟩) (by show (w.heap.size + 1) ≠ w1.heap.size; omega) (.bool ((pr == 0)))) (p := ⟨w1.heap.size, 18, none⟩) (by show (w.heap.size + 1) ≠ w1.heap.size; omega) (.int .i64 bl))
    have lt1 := R13.out.lt
    have lt2 := H13.out.lt
    clear I13 F13 R13 H13
    go_wp2_with (first | ((with_reducible refine go_loadI (.tmp 5) w1.heap.size o14 (by with_unfolding_all rfl) H14.out ?_)) | ((with_reducible refine go_storeI (.tmp 4) (.tmp 147) (w.heap.size + 1) o14 zeroI (by with_unfolding_all rfl) (by with_unfolding_all rfl) R14.out ?_)))
    refine bodyPost_ret (results_cell_row rfl _ _ (w.heap.size + 1) 25 (itA o14) (0, 0) _ rfl (show Blk _ _ _ _ from ItAt.row (o := zeroI) R14.out _) Tryz.underlying25 rfl (by kernel_rfl)) rfl ?_
    exact ⟨o14, (by rw [ho14.out, ho10.out]; exact ⟨by simp [zeroI], by simp [zeroI], fun _ => ⟨rfl, rfl, rfl⟩⟩), rfl, I14.out.row (by omega) _⟩
  · go_wp2_with fail
    refine (sarc_any _ B g a n c z I3.out.src).mono ?_
    rintro e w4 ⟨ai, hai, rfl, gg⟩
    have I4 := Lib.hid (I3.out.trans gg)
    have F4 := Lib.hid (Blk.grown F3.out gg.gr (by intro e; injection e; omega))
    have R4 := Lib.hid (Blk.grown R3.out gg.gr (by intro e; injection e; omega))
    have H4 := Lib.hid (Blk.grown H3.out gg.gr (by intro e; injection e; omega))
    have zz4 := gg.gr.size
    clear I3 F3 R3 H3 gg
    have H4 : Hid (ItAt w4 w1.heap.size _) := H4
    have R4 : Hid (ItAt w4 (w.heap.size + 1) _) := R4
    obtain ⟨W5, hW5⟩ : ∃ W, (w4.alloc (.cells (itA zeroI) 25)).setRow w4.heap.size (itA ai) = W := ⟨_, rfl⟩
    have A5 : ItAt W5 w4.heap.size ai := by rw [← hW5]; exact ItAt.row (ItAt.new w4 zeroI) _
    have F5 : Blk W5 w.heap.size 23 #[.int .i64 x, .int .i64 y, .int .i64 u] := by rw [← hW5]; exact Blk.rowFar (F4.out.alloc _) (by omega) _
    have R5 : ItAt W5 (w.heap.size + 1) zeroI := by rw [← hW5]; exact ItAt.rowFar (o := zeroI) (Blk.alloc R4.out _) (by omega) _
    have H5 : ItAt W5 w1.heap.size { zeroI with block := bk } := by rw [← hW5]; exact ItAt.rowFar (o := { zeroI with block := bk }) (Blk.alloc H4.out _) (by omega) _
    have I5 : GI B g a n c z w W5 := by rw [← hW5]; exact (I4.out.alloc _).row (by omega) _
    have qf0 := F5.cell' 0 rfl
    have qf1 := F5.cell' 1 rfl
    have qf2 := F5.cell' 2 rfl
    have qa2 := A5.c2
    have qa3 := A5.c3
    have qa4 := A5.c4
    have I5 := Lib.hid I5
    have A5 := Lib.hid A5
    have F5 := Lib.hid F5
    have R5 := Lib.hid R5
    have H5 := Lib.hid H5
    clear I4 F4 R4 H4
    go_upto_region 16 with (first | ((with_reducible refine go_allocI ?_)) | ((with_reducible refine go_storeI (.tmp 6) (.tmp 58) w4.heap.size ai zeroI (by with_unfolding_all rfl) (by with_unfolding_all rfl) (ItAt.new _ _) ?_)))
    rw [hW5]
    clear hW5
    go_wp2_with fail
    refine (sub_some _ _ _ _ _ _ _).mono ?_
    rintro e w6 ⟨d1, d2, d3, rfl, bb⟩
    have I6 := Lib.hid (I5.out.below bb)
    have A6 := Lib.hid (Blk.below A5.out bb A5.out.lt)
    have F6 := Lib.hid (Blk.below F5.out bb F5.out.lt)
    have R6 := Lib.hid (Blk.below R5.out bb R5.out.lt)
    have H6 := Lib.hid (Blk.below H5.out bb H5.out.lt)
    have lt5 := A5.out.lt
    have zz6 := bb.size
    clear I5 A5 F5 R5 H5 bb qf0 qf1 qf2 qa2 qa3 qa4
    go_wp2_with fail
    refine wp_told (fun W => GI B g a n c z w W ∧ Blk W w.heap.size 23 #[.int .i64 x, .int .i64 y, .int .i64 u] ∧ ItAt W (w.heap.size + 1) zeroI ∧ ItAt W w1.heap.size { zeroI with block := bk } ∧ ItAt W w4.heap.size ai ∧ Blk W w6.heap.size 23 #[.int .i64 d1, .int .i64 d2, .int .i64 d3]) ⟨I6.out.alloc _, Blk.alloc F6.out _, Blk.alloc R6.out _, Blk.alloc H6.out _, Blk.alloc A6.out _, Blk.new _ _ _⟩ ?_
    clear I6 F6 R6 H6 A6
    rintro W7 ⟨I7, F7, R7, H7, A7, D7⟩
    refine region_M (fun W => (W.cell? ⟨w4.heap.size, 5, none⟩ = some (.int .i64 ai.tx) ∧ W.cell? ⟨w4.heap.size, 6, none⟩ = some (.int .i64 ai.ty) ∧ W.cell? ⟨w4.heap.size, 7, none⟩ = some (.int .i64 ai.tz)) ∧ W.cell? ⟨w4.heap.size, 9, none⟩ = some (.int .i64 ai.cx) ∧ W.cell? ⟨w4.heap.size, 10, none⟩ = some (.int .i64 ai.cy) ∧ W.cell? ⟨w4.heap.size, 11, none⟩ = some (.int .i64 ai.cz)) [14, 16] (fun W => (W.cell? ⟨w.heap.size, 0, none⟩ = some (.int .i64 x) ∧ W.cell? ⟨w.heap.size, 1, none⟩ = some (.int .i64 y) ∧ W.cell? ⟨w.heap.size, 2, none⟩ = some (.int .i64 u)) ∧ (W.cell? ⟨w6.heap.size, 0, none⟩ = some (.int .i64 d1) ∧ W.cell? ⟨w6.heap.size, 1, none⟩ = some (.int .i64 d2) ∧ W.cell? ⟨w6.heap.size, 2, none⟩ = some (.int .i64 d3)) ∧ W.cell? ⟨w1.heap.size, 1, none⟩ = some (.int .i64 bk)) (by kernel_rfl) ?_
    have I8 := Lib.hid (I7.drew)
    have F8 := Lib.hid (Blk.drew F7)
    have R8 := Lib.hid (Blk.drew R7)
    have H8 := Lib.hid (Blk.drew H7)
    have A8 := Lib.hid (Blk.drew A7)
    have D8 := Lib.hid (Blk.drew D7)
    clear I7 F7 R7 H7 A7 D7
    have H8 : Hid (ItAt _ w1.heap.size { zeroI with block := bk }) := H8
    have R8 : Hid (ItAt _ (w.heap.size + 1) zeroI) := R8
    have A8 : Hid (ItAt _ w4.heap.size ai) := A8
    refine take_MU 0 (v := .agg #[.int .i64 x, .int .i64 y, .int .i64 u]) rfl (by kernel_rfl) (by kernel_rfl) (by kernel_rfl) (fun _ _ _ h => h) rfl (fun W' hW' => by obtain ⟨⟨q0, q1, q2⟩, ⟨q3, q4, q5⟩, q6⟩ := hW'; go_simp) ⟨⟨F8.out.cell' 0 rfl, F8.out.cell' 1 rfl, F8.out.cell' 2 rfl⟩, ⟨D8.out.cell' 0 rfl, D8.out.cell' 1 rfl, D8.out.cell' 2 rfl⟩, H8.out.c1⟩ ?_
    refine take_MP 1 (v := .pointer (some ⟨w4.heap.size, 5, none⟩)) rfl (by kernel_rfl) (by kernel_rfl) (by kernel_rfl) (fun _ _ _ h => h) rfl (fun W' => by go_simp) ?_
    refine take_ML 2 (v := .agg #[.int .i64 ai.tx, .int .i64 ai.ty, .int .i64 ai.tz]) rfl (by kernel_rfl) (by kernel_rfl) (by kernel_rfl) (by kernel_rfl) (fun _ _ _ h => h) rfl (fun W' hW' => by obtain ⟨⟨q0, q1, q2⟩, q3, q4, q5⟩ := hW'; go_simp) ⟨⟨A8.out.c5, A8.out.c6, A8.out.c7⟩, A8.out.c9, A8.out.c10, A8.out.c11⟩ ?_
    refine take_MU 3 (v := .agg #[.int .i64 d1, .int .i64 d2, .int .i64 d3]) rfl (by kernel_rfl) (by kernel_rfl) (by kernel_rfl) (fun _ _ _ h => h) rfl (fun W' hW' => by obtain ⟨⟨q0, q1, q2⟩, ⟨q3, q4, q5⟩, q6⟩ := hW'; go_simp) ⟨⟨F8.out.cell' 0 rfl, F8.out.cell' 1 rfl, F8.out.cell' 2 rfl⟩, ⟨D8.out.cell' 0 rfl, D8.out.cell' 1 rfl, D8.out.cell' 2 rfl⟩, H8.out.c1⟩ ?_
    refine take_MP 5 (v := .pointer (some ⟨w4.heap.size, 9, none⟩)) rfl (by kernel_rfl) (by kernel_rfl) (by kernel_rfl) (fun _ _ _ h => h) rfl (fun W' => by go_simp) ?_
    refine take_ML 6 (v := .agg #[.int .i64 ai.cx, .int .i64 ai.cy, .int .i64 ai.cz]) rfl (by kernel_rfl) (by kernel_rfl) (by kernel_rfl) (by kernel_rfl) (fun _ _ _ h => h) rfl (fun W' hW' => by obtain ⟨⟨q0, q1, q2⟩, q3, q4, q5⟩ := hW'; go_simp) ⟨⟨A8.out.c5, A8.out.c6, A8.out.c7⟩, A8.out.c9, A8.out.c10, A8.out.c11⟩ ?_
    refine take_MU 7 (v := .agg #[.int .i64 d1, .int .i64 d2, .int .i64 d3]) rfl (by kernel_rfl) (by kernel_rfl) (by kernel_rfl) (fun _ _ _ h => h) rfl (fun W' hW' => by obtain ⟨⟨q0, q1, q2⟩, ⟨q3, q4, q5⟩, q6⟩ := hW'; go_simp) ⟨⟨F8.out.cell' 0 rfl, F8.out.cell' 1 rfl, F8.out.cell' 2 rfl⟩, ⟨D8.out.cell' 0 rfl, D8.out.cell' 1 rfl, D8.out.cell' 2 rfl⟩, H8.out.c1⟩ ?_
    refine take_MP 9 (v := .pointer (some ⟨w1.heap.size, 1, none⟩)) rfl (by kernel_rfl) (by kernel_rfl) (by kernel_rfl) (fun _ _ _ h => h) rfl (fun W' => by go_simp) ?_
    refine take_MU 10 (v := .int .i64 bk) rfl (by kernel_rfl) (by kernel_rfl) (by kernel_rfl) (fun _ _ _ h => h) rfl (fun W' hW' => by obtain ⟨⟨q0, q1, q2⟩, ⟨q3, q4, q5⟩, q6⟩ := hW'; go_simp) ⟨⟨F8.out.cell' 0 rfl, F8.out.cell' 1 rfl, F8.out.cell' 2 rfl⟩, ⟨D8.out.cell' 0 rfl, D8.out.cell' 1 rfl, D8.out.cell' 2 rfl⟩, H8.out.c1⟩ ?_
    refine take_MP 11 (v := .pointer (some ⟨w4.heap.size, 2, none⟩)) rfl (by kernel_rfl) (by kernel_rfl) (by kernel_rfl) (fun _ _ _ h => h) rfl (fun W' => by go_simp) ?_
    refine one_M 4 (by kernel_rfl) rfl rfl fun K4 hK4 => ?_
    have HK4 := Lib.hid hK4
    clear hK4
    go_simp
    refine (add_some _ _ _ _ _ _ _).mono ?_
    rintro e w9 ⟨tx, ty, tz, rfl, bb⟩
    have I9 := Lib.hid (I8.out.below bb)
    have F9 := Lib.hid (Blk.below F8.out bb F8.out.lt)
    have R9 := Lib.hid (Blk.below R8.out bb R8.out.lt)
    have H9 := Lib.hid (Blk.below H8.out bb H8.out.lt)
    have A9 := Lib.hid (Blk.below A8.out bb A8.out.lt)
    have D9 := Lib.hid (Blk.below D8.out bb D8.out.lt)
    have zz9 := bb.size
    clear I8 F8 R8 H8 A8 D8 bb
    have H9 : Hid (ItAt _ w1.heap.size { zeroI with block := bk }) := H9
    have R9 : Hid (ItAt _ (w.heap.size + 1) zeroI) := R9
    have A9 : Hid (ItAt _ w4.heap.size ai) := A9
    refine HK4.out _ _ ⟨fun _ _ => ⟨⟨A9.out.c5, A9.out.c6, A9.out.c7⟩, A9.out.c9, A9.out.c10, A9.out.c11⟩, fun _ => ⟨⟨F9.out.cell' 0 rfl, F9.out.cell' 1 rfl, F9.out.cell' 2 rfl⟩, ⟨D9.out.cell' 0 rfl, D9.out.cell' 1 rfl, D9.out.cell' 2 rfl⟩, H9.out.c1⟩⟩ ?_
    clear HK4
    refine one_M 8 (by kernel_rfl) rfl rfl fun K8 hK8 => ?_
    have HK8 := Lib.hid hK8
    clear hK8
    go_simp
    refine (add_some _ _ _ _ _ _ _).mono ?_
    rintro e w10 ⟨cx, cy, cz, rfl, bb⟩
    have I10 := Lib.hid (I9.out.below bb)
    have F10 := Lib.hid (Blk.below F9.out bb F9.out.lt)
    have R10 := Lib.hid (Blk.below R9.out bb R9.out.lt)
    have H10 := Lib.hid (Blk.below H9.out bb H9.out.lt)
    have A10 := Lib.hid (Blk.below A9.out bb A9.out.lt)
    have D10 := Lib.hid (Blk.below D9.out bb D9.out.lt)
    have zz10 := bb.size
    clear I9 F9 R9 H9 A9 D9 bb
    have H10 : Hid (ItAt _ w1.heap.size { zeroI with block := bk }) := H10
    have R10 : Hid (ItAt _ (w.heap.size + 1) zeroI) := R10
    have A10 : Hid (ItAt _ w4.heap.size ai) := A10
    refine HK8.out _ _ ⟨fun _ _ => ⟨⟨A10.out.c5, A10.out.c6, A10.out.c7⟩, A10.out.c9, A10.out.c10, A10.out.c11⟩, fun _ => ⟨⟨F10.out.cell' 0 rfl, F10.out.cell' 1 rfl, F10.out.cell' 2 rfl⟩, ⟨D10.out.cell' 0 rfl, D10.out.cell' 1 rfl, D10.out.cell' 2 rfl⟩, H10.out.c1⟩⟩ ?_
    clear HK8
    have f2 := Blk.frozen A10.out 2
    have r2 := A10.out.c2
    have f3 := Blk.frozen A10.out 3
    have r3 := A10.out.c3
    have f4 := Blk.frozen A10.out 4
    have r4 := A10.out.c4
    refine one_M 12 (by kernel_rfl) rfl rfl fun K12 hK12 => ?_
    have HK12 := Lib.hid hK12
    clear hK12
    go_simp
    have I11 := Lib.hid (((I10.out.set (b := w4.heap.size) (by omega) 2 (.int .i64 x)).set (b := w4.heap.size) (by omega) 3 (.int .i64 y)).set (b := w4.heap.size) (by omega) 4 (.int .i64 u))
    have F11 := Lib.hid (Blk.skip (Blk.skip (Blk.skip F10.out (p := ⟨w4.heap.size, 2, none⟩) (by show w.heap.size ≠ w4.heap.size; omega) (.int .i64 x)) (p := ⟨w4.heap.size, 3, none⟩) (by show w.heap.size ≠ w4.heap.size; omega) (.int .i64 y)) (p := ⟨w4.heap.size, 4, none⟩) (by show w.heap.size ≠ w4.heap.size; omega) (.int .i64 u))
    have R11 := Lib.hid (ItAt.far (ItAt.far (ItAt.far R10.out (p := ⟨w4.heap.size, 2, none⟩) (by show (w.heap.size + 1) ≠ w4.heap.size; omega) (.int .i64 x)) (p := ⟨w4.heap.size, 3, none⟩) (by show (w.heap.size + 1) ≠ w4.heap.size; omega) (.int .i64 y)) (p := ⟨w4.heap.size, 4, none⟩) (by show (w.heap.size + 1) ≠ w4.heap.size; omega) (.int .i64 u))
    have H11 := Lib.hid (ItAt.far (ItAt.far (ItAt.far H10.out (p := ⟨w4.heap.size, 2, none⟩) (by show w1.heap.size ≠ w4.heap.size; omega) (.int .i64 x)) (p := ⟨w4.heap.size, 3, none⟩) (by show w1.heap.size ≠ w4.heap.size; omega) (.int .i64 y)) (p := ⟨w4.heap.size, 4, none⟩) (by show w1.heap.size ≠ w4.heap.size; omega) (.int .i64 u))
    have A11 := Lib.hid (((A10.out.s2 x).s3 y).s4 u)
    have D11 := Lib.hid (Blk.skip (Blk.skip (Blk.skip D10.out (p := ⟨w4.heap.size, 2, none⟩) (by show w6.heap.size ≠ w4.heap.size; omega) (.int .i64 x)) (p := ⟨w4.heap.size, 3, none⟩) (by show w6.heap.size ≠ w4.heap.size; omega) (.int .i64 y)) (p := ⟨w4.heap.size, 4, none⟩) (by show w6.heap.size ≠ w4.heap.size; omega) (.int .i64 u))
    clear f2 r2 f3 r3 f4 r4 I10 F10 R10 H10 A10 D10
    refine HK12.out _ _ ⟨fun _ _ => ⟨⟨A11.out.c5, A11.out.c6, A11.out.c7⟩, A11.out.c9, A11.out.c10, A11.out.c11⟩, fun _ => ⟨⟨F11.out.cell' 0 rfl, F11.out.cell' 1 rfl, F11.out.cell' 2 rfl⟩, ⟨D11.out.cell' 0 rfl, D11.out.cell' 1 rfl, D11.out.cell' 2 rfl⟩, H11.out.c1⟩⟩ ?_
    clear HK12
    refine take_MP 13 (v := .pointer (some ⟨w4.heap.size, 5, none⟩)) rfl (by kernel_rfl) (by kernel_rfl) (by kernel_rfl) (fun _ _ _ h => h) rfl (fun W' => by go_simp) ?_
    have f5 := Blk.frozen A11.out 5
    have r5 := A11.out.c5
    have f6 := Blk.frozen A11.out 6
    have r6 := A11.out.c6
    have f7 := Blk.frozen A11.out 7
    have r7 := A11.out.c7
    refine one_M 14 (by kernel_rfl) rfl rfl fun K14 hK14 => ?_
    have HK14 := Lib.hid hK14
    clear hK14
    go_simp
    have I12 := Lib.hid (((I11.out.set (b := w4.heap.size) (by omega) 5 (.int .i64 tx)).set (b := w4.heap.size) (by omega) 6 (.int .i64 ty)).set (b := w4.heap.size) (by omega) 7 (.int .i64 tz))
    have F12 := Lib.hid (Blk.skip (Blk.skip (Blk.skip F11.out (p := ⟨w4.heap.size, 5, none⟩) (by show w.heap.size ≠ w4.heap.size; omega) (.int .i64 tx)) (p := ⟨w4.heap.size, 6, none⟩) (by show w.heap.size ≠ w4.heap.size; omega) (.int .i64 ty)) (p := ⟨w4.heap.size, 7, none⟩) (by show w.heap.size ≠ w4.heap.size; omega) (.int .i64 tz))
    have R12 := Lib.hid (ItAt.far (ItAt.far (ItAt.far R11.out (p := ⟨w4.heap.size, 5, none⟩) (by show (w.heap.size + 1) ≠ w4.heap.size; omega) (.int .i64 tx)) (p := ⟨w4.heap.size, 6, none⟩) (by show (w.heap.size + 1) ≠ w4.heap.size; omega) (.int .i64 ty)) (p := ⟨w4.heap.size, 7, none⟩) (by show (w.heap.size + 1) ≠ w4.heap.size; omega) (.int .i64 tz))
    have H12 := Lib.hid (ItAt.far (ItAt.far (ItAt.far H11.out (p := ⟨w4.heap.size, 5, none⟩) (by show w1.heap.size ≠ w4.heap.size; omega) (.int .i64 tx)) (p := ⟨w4.heap.size, 6, none⟩) (by show w1.heap.size ≠ w4.heap.size; omega) (.int .i64 ty)) (p := ⟨w4.heap.size, 7, none⟩) (by show w1.heap.size ≠ w4.heap.size; omega) (.int .i64 tz))
    have A12 := Lib.hid (((A11.out.s5 tx).s6 ty).s7 tz)
    have D12 := Lib.hid (Blk.skip (Blk.skip (Blk.skip D11.out (p := ⟨w4.heap.size, 5, none⟩) (by show w6.heap.size ≠ w4.heap.size; omega) (.int .i64 tx)) (p := ⟨w4.heap.size, 6, none⟩) (by show w6.heap.size ≠ w4.heap.size; omega) (.int .i64 ty)) (p := ⟨w4.heap.size, 7, none⟩) (by show w6.heap.size ≠ w4.heap.size; omega) (.int .i64 tz))
    clear f5 r5 f6 r6 f7 r7 I11 F11 R11 H11 A11 D11
    refine HK14.out _ _ ⟨fun h => absurd h (by decide), fun _ => ⟨⟨F12.out.cell' 0 rfl, F12.out.cell' 1 rfl, F12.out.cell' 2 rfl⟩, ⟨D12.out.cell' 0 rfl, D12.out.cell' 1 rfl, D12.out.cell' 2 rfl⟩, H12.out.c1⟩⟩ ?_
    clear HK14
    refine take_MP 15 (v := .pointer (some ⟨w4.heap.size, 9, none⟩)) rfl (by kernel_rfl) (by kernel_rfl) (by kernel_rfl) (fun _ _ _ h => h) rfl (fun W' => by go_simp) ?_
    have f9 := Blk.frozen A12.out 9
    have r9 := A12.out.c9
    have f10 := Blk.frozen A12.out 10
    have r10 := A12.out.c10
    have f11 := Blk.frozen A12.out 11
    have r11 := A12.out.c11
    refine one_M 16 (by kernel_rfl) rfl rfl fun K16 hK16 => ?_
    have HK16 := Lib.hid hK16
    clear hK16
    go_simp
    have I13 := Lib.hid (((I12.out.set (b := w4.heap.size) (by omega) 9 (.int .i64 cx)).set (b := w4.heap.size) (by omega) 10 (.int .i64 cy)).set (b := w4.heap.size) (by omega) 11 (.int .i64 cz))
    have F13 := Lib.hid (Blk.skip (Blk.skip (Blk.skip F12.out (p := ⟨w4.heap.size, 9, none⟩) (by show w.heap.size ≠ w4.heap.size; omega) (.int .i64 cx)) (p := ⟨w4.heap.size, 10, none⟩) (by show w.heap.size ≠ w4.heap.size; omega) (.int .i64 cy)) (p := ⟨w4.heap.size, 11, none⟩) (by show w.heap.size ≠ w4.heap.size; omega) (.int .i64 cz))
    have R13 := Lib.hid (ItAt.far (ItAt.far (ItAt.far R12.out (p := ⟨w4.heap.size, 9, none⟩) (by show (w.heap.size + 1) ≠ w4.heap.size; omega) (.int .i64 cx)) (p := ⟨w4.heap.size, 10, none⟩) (by show (w.heap.size + 1) ≠ w4.heap.size; omega) (.int .i64 cy)) (p := ⟨w4.heap.size, 11, none⟩) (by show (w.heap.size + 1) ≠ w4.heap.size; omega) (.int .i64 cz))
    have H13 := Lib.hid (ItAt.far (ItAt.far (ItAt.far H12.out (p := ⟨w4.heap.size, 9, none⟩) (by show w1.heap.size ≠ w4.heap.size; omega) (.int .i64 cx)) (p := ⟨w4.heap.size, 10, none⟩) (by show w1.heap.size ≠ w4.heap.size; omega) (.int .i64 cy)) (p := ⟨w4.heap.size, 11, none⟩) (by show w1.heap.size ≠ w4.heap.size; omega) (.int .i64 cz))
    have A13 := Lib.hid (((A12.out.s9 cx).s10 cy).s11 cz)
    have D13 := Lib.hid (Blk.skip (Blk.skip (Blk.skip D12.out (p := ⟨w4.heap.size, 9, none⟩) (by show w6.heap.size ≠ w4.heap.size; omega) (.int .i64 cx)) (p := ⟨w4.heap.size, 10, none⟩) (by show w6.heap.size ≠ w4.heap.size; omega) (.int .i64 cy)) (p := ⟨w4.heap.size, 11, none⟩) (by show w6.heap.size ≠ w4.heap.size; omega) (.int .i64 cz))
    clear f9 r9 f10 r10 f11 r11 I12 F12 R12 H12 A12 D12
    refine HK16.out _ _ ⟨fun h => absurd h (by decide), fun _ => ⟨⟨F13.out.cell' 0 rfl, F13.out.cell' 1 rfl, F13.out.cell' 2 rfl⟩, ⟨D13.out.cell' 0 rfl, D13.out.cell' 1 rfl, D13.out.cell' 2 rfl⟩, H13.out.c1⟩⟩ ?_
    clear HK16
    refine take_MP 17 (v := .pointer (some ⟨w4.heap.size, 1, none⟩)) rfl (by kernel_rfl) (by kernel_rfl) (by kernel_rfl) (fun _ _ _ h => h) rfl (fun W' => by go_simp) ?_
    have f1 := Blk.frozen A13.out 1
    have r1 := A13.out.c1
    refine one_M 18 (by kernel_rfl) rfl rfl fun K18 hK18 => ?_
    have HK18 := Lib.hid hK18
    clear hK18
    go_simp
    have I14 := Lib.hid (I13.out.set (b := w4.heap.size) (by omega) 1 (.int .i64 bk))
    have F14 := Lib.hid (Blk.skip F13.out (p := ⟨w4.heap.size, 1, none⟩) (by show w.heap.size ≠ w4.heap.size; omega) (.int .i64 bk))
    have R14 := Lib.hid (ItAt.far R13.out (p := ⟨w4.heap.size, 1, none⟩) (by show (w.heap.size + 1) ≠ w4.heap.size; omega) (.int .i64 bk))
    have H14 := Lib.hid (ItAt.far H13.out (p := ⟨w4.heap.size, 1, none⟩) (by show w1.heap.size ≠ w4.heap.size; omega) (.int .i64 bk))
    have A14 := Lib.hid (A13.out.s1 bk)
    have D14 := Lib.hid (Blk.skip D13.out (p := ⟨w4.heap.size, 1, none⟩) (by show w6.heap.size ≠ w4.heap.size; omega) (.int .i64 bk))
    clear f1 r1 I13 F13 R13 H13 A13 D13
    refine HK18.out _ _ ⟨fun _ h => ⟨⟨(by have := h.1.1; go_simp), (by have := h.1.2.1; go_simp), (by have := h.1.2.2; go_simp)⟩, (by have := h.2.1; go_simp), (by have := h.2.2.1; go_simp), (by have := h.2.2.2; go_simp)⟩, fun _ => ⟨⟨F14.out.cell' 0 rfl, F14.out.cell' 1 rfl, F14.out.cell' 2 rfl⟩, ⟨D14.out.cell' 0 rfl, D14.out.cell' 1 rfl, D14.out.cell' 2 rfl⟩, H14.out.c1⟩⟩ ?_
    clear HK18
    refine done_M (by kernel_rfl) ?_ _
    obtain ⟨ob, hob, AB⟩ : ∃ o, Hid (o = _) ∧ Hid (ItAt _ w4.heap.size o) := ⟨_, Lib.hid rfl, A14⟩
    refine on_told (fun W => GI B g a n c z w W ∧ ItAt W (w.heap.size + 1) zeroI ∧ ItAt W w4.heap.size ob) ⟨I14.out, R14.out, AB.out⟩ ?_
    clear I14 F14 R14 H14 A14 D14 AB
    rintro W ⟨I, RZ, AZ⟩
    have lt1 := RZ.lt
    have lt2 := AZ.lt
    have I := Lib.hid I
    have RZ := Lib.hid RZ
    have AZ := Lib.hid AZ
    go_simp
    go_wp2_with (first | ((with_reducible refine go_loadI (.tmp 6) w4.heap.size ob (by with_unfolding_all rfl) AZ.out ?_)) | ((with_reducible refine go_storeI (.tmp 4) (.tmp 78) (w.heap.size + 1) ob zeroI (by with_unfolding_all rfl) (by with_unfolding_all rfl) RZ.out ?_)))
    refine bodyPost_ret (results_cell_row rfl _ _ (w.heap.size + 1) 25 (itA ob) (0, 0) _ rfl (show Blk _ _ _ _ from ItAt.row (o := zeroI) RZ.out _) Tryz.underlying25 rfl (by kernel_rfl)) rfl ?_
    exact ⟨ob, (by rw [hob.out]; exact ⟨by simp [hai], by simp [hai], fun _ => ⟨rfl, rfl, rfl⟩⟩), rfl, I.out.row (by omega) _⟩
  · go_wp2_with fail
    refine (sarc_any _ B g a n c z I3.out.src).mono ?_
    rintro e w4 ⟨ai, hai, rfl, gg⟩
    have I4 := Lib.hid (I3.out.trans gg)
    have F4 := Lib.hid (Blk.grown F3.out gg.gr (by intro e; injection e; omega))
    have R4 := Lib.hid (Blk.grown R3.out gg.gr (by intro e; injection e; omega))
    have H4 := Lib.hid (Blk.grown H3.out gg.gr (by intro e; injection e; omega))
    have zz4 := gg.gr.size
    clear I3 F3 R3 H3 gg
    have H4 : Hid (ItAt w4 w1.heap.size _) := H4
    have R4 : Hid (ItAt w4 (w.heap.size + 1) _) := R4
    obtain ⟨W5, hW5⟩ : ∃ W, (w4.alloc (.cells (itA zeroI) 25)).setRow w4.heap.size (itA ai) = W := ⟨_, rfl⟩
    have A5 : ItAt W5 w4.heap.size ai := by rw [← hW5]; exact ItAt.row (ItAt.new w4 zeroI) _
    have F5 : Blk W5 w.heap.size 23 #[.int .i64 x, .int .i64 y, .int .i64 u] := by rw [← hW5]; exact Blk.rowFar (F4.out.alloc _) (by omega) _
    have R5 : ItAt W5 (w.heap.size + 1) zeroI := by rw [← hW5]; exact ItAt.rowFar (o := zeroI) (Blk.alloc R4.out _) (by omega) _
    have H5 : ItAt W5 w1.heap.size { zeroI with block := bk } := by rw [← hW5]; exact ItAt.rowFar (o := { zeroI with block := bk }) (Blk.alloc H4.out _) (by omega) _
    have I5 : GI B g a n c z w W5 := by rw [← hW5]; exact (I4.out.alloc _).row (by omega) _
    have qf0 := F5.cell' 0 rfl
    have qf1 := F5.cell' 1 rfl
    have qf2 := F5.cell' 2 rfl
    have qa2 := A5.c2
    have qa3 := A5.c3
    have qa4 := A5.c4
    have I5 := Lib.hid I5
    have A5 := Lib.hid A5
    have F5 := Lib.hid F5
    have R5 := Lib.hid R5
    have H5 := Lib.hid H5
    clear I4 F4 R4 H4
    go_upto_region 16 with (first | ((with_reducible refine go_allocI ?_)) | ((with_reducible refine go_storeI (.tmp 6) (.tmp 58) w4.heap.size ai zeroI (by with_unfolding_all rfl) (by with_unfolding_all rfl) (ItAt.new _ _) ?_)))
    rw [hW5]
    clear hW5
    go_wp2_with fail
    refine (sub_some _ _ _ _ _ _ _).mono ?_
    rintro e w6 ⟨d1, d2, d3, rfl, bb⟩
    have I6 := Lib.hid (I5.out.below bb)
    have A6 := Lib.hid (Blk.below A5.out bb A5.out.lt)
    have F6 := Lib.hid (Blk.below F5.out bb F5.out.lt)
    have R6 := Lib.hid (Blk.below R5.out bb R5.out.lt)
    have H6 := Lib.hid (Blk.below H5.out bb H5.out.lt)
    have lt5 := A5.out.lt
    have zz6 := bb.size
    clear I5 A5 F5 R5 H5 bb qf0 qf1 qf2 qa2 qa3 qa4
    go_wp2_with fail
    refine wp_told (fun W => GI B g a n c z w W ∧ Blk W w.heap.size 23 #[.int .i64 x, .int .i64 y, .int .i64 u] ∧ ItAt W (w.heap.size + 1) zeroI ∧ ItAt W w1.heap.size { zeroI with block := bk } ∧ ItAt W w4.heap.size ai ∧ Blk W w6.heap.size 23 #[.int .i64 d1, .int .i64 d2, .int .i64 d3]) ⟨I6.out.alloc _, Blk.alloc F6.out _, Blk.alloc R6.out _, Blk.alloc H6.out _, Blk.alloc A6.out _, Blk.new _ _ _⟩ ?_
    clear I6 F6 R6 H6 A6
    rintro W7 ⟨I7, F7, R7, H7, A7, D7⟩
    refine region_M (fun W => (W.cell? ⟨w4.heap.size, 5, none⟩ = some (.int .i64 ai.tx) ∧ W.cell? ⟨w4.heap.size, 6, none⟩ = some (.int .i64 ai.ty) ∧ W.cell? ⟨w4.heap.size, 7, none⟩ = some (.int .i64 ai.tz)) ∧ W.cell? ⟨w4.heap.size, 9, none⟩ = some (.int .i64 ai.cx) ∧ W.cell? ⟨w4.heap.size, 10, none⟩ = some (.int .i64 ai.cy) ∧ W.cell? ⟨w4.heap.size, 11, none⟩ = some (.int .i64 ai.cz)) [14, 16] (fun W => (W.cell? ⟨w.heap.size, 0, none⟩ = some (.int .i64 x) ∧ W.cell? ⟨w.heap.size, 1, none⟩ = some (.int .i64 y) ∧ W.cell? ⟨w.heap.size, 2, none⟩ = some (.int .i64 u)) ∧ (W.cell? ⟨w6.heap.size, 0, none⟩ = some (.int .i64 d1) ∧ W.cell? ⟨w6.heap.size, 1, none⟩ = some (.int .i64 d2) ∧ W.cell? ⟨w6.heap.size, 2, none⟩ = some (.int .i64 d3)) ∧ W.cell? ⟨w1.heap.size, 1, none⟩ = some (.int .i64 bk)) (by kernel_rfl) ?_
    have I8 := Lib.hid (I7.drew)
    have F8 := Lib.hid (Blk.drew F7)
    have R8 := Lib.hid (Blk.drew R7)
    have H8 := Lib.hid (Blk.drew H7)
    have A8 := Lib.hid (Blk.drew A7)
    have D8 := Lib.hid (Blk.drew D7)
    clear I7 F7 R7 H7 A7 D7
    have H8 : Hid (ItAt _ w1.heap.size { zeroI with block := bk }) := H8
    have R8 : Hid (ItAt _ (w.heap.size + 1) zeroI) := R8
    have A8 : Hid (ItAt _ w4.heap.size ai) := A8
    refine take_MU 0 (v := .agg #[.int .i64 x, .int .i64 y, .int .i64 u]) rfl (by kernel_rfl) (by kernel_rfl) (by kernel_rfl) (fun _ _ _ h => h) rfl (fun W' hW' => by obtain ⟨⟨q0, q1, q2⟩, ⟨q3, q4, q5⟩, q6⟩ := hW'; go_simp) ⟨⟨F8.out.cell' 0 rfl, F8.out.cell' 1 rfl, F8.out.cell' 2 rfl⟩, ⟨D8.out.cell' 0 rfl, D8.out.cell' 1 rfl, D8.out.cell' 2 rfl⟩, H8.out.c1⟩ ?_
    refine take_MP 1 (v := .pointer (some ⟨w4.heap.size, 5, none⟩)) rfl (by kernel_rfl) (by kernel_rfl) (by kernel_rfl) (fun _ _ _ h => h) rfl (fun W' => by go_simp) ?_
    refine take_ML 2 (v := .agg #[.int .i64 ai.tx, .int .i64 ai.ty, .int .i64 ai.tz]) rfl (by kernel_rfl) (by kernel_rfl) (by kernel_rfl) (by kernel_rfl) (fun _ _ _ h => h) rfl (fun W' hW' => by obtain ⟨⟨q0, q1, q2⟩, q3, q4, q5⟩ := hW'; go_simp) ⟨⟨A8.out.c5, A8.out.c6, A8.out.c7⟩, A8.out.c9, A8.out.c10, A8.out.c11⟩ ?_
    refine take_MU 3 (v := .agg #[.int .i64 d1, .int .i64 d2, .int .i64 d3]) rfl (by kernel_rfl) (by kernel_rfl) (by kernel_rfl) (fun _ _ _ h => h) rfl (fun W' hW' => by obtain ⟨⟨q0, q1, q2⟩, ⟨q3, q4, q5⟩, q6⟩ := hW'; go_simp) ⟨⟨F8.out.cell' 0 rfl, F8.out.cell' 1 rfl, F8.out.cell' 2 rfl⟩, ⟨D8.out.cell' 0 rfl, D8.out.cell' 1 rfl, D8.out.cell' 2 rfl⟩, H8.out.c1⟩ ?_
    refine take_MP 5 (v := .pointer (some ⟨w4.heap.size, 9, none⟩)) rfl (by kernel_rfl) (by kernel_rfl) (by kernel_rfl) (fun _ _ _ h => h) rfl (fun W' => by go_simp) ?_
    refine take_ML 6 (v := .agg #[.int .i64 ai.cx, .int .i64 ai.cy, .int .i64 ai.cz]) rfl (by kernel_rfl) (by kernel_rfl) (by kernel_rfl) (by kernel_rfl) (fun _ _ _ h => h) rfl (fun W' hW' => by obtain ⟨⟨q0, q1, q2⟩, q3, q4, q5⟩ := hW'; go_simp) ⟨⟨A8.out.c5, A8.out.c6, A8.out.c7⟩, A8.out.c9, A8.out.c10, A8.out.c11⟩ ?_
    refine take_MU 7 (v := .agg #[.int .i64 d1, .int .i64 d2, .int .i64 d3]) rfl (by kernel_rfl) (by kernel_rfl) (by kernel_rfl) (fun _ _ _ h => h) rfl (fun W' hW' => by obtain ⟨⟨q0, q1, q2⟩, ⟨q3, q4, q5⟩, q6⟩ := hW'; go_simp) ⟨⟨F8.out.cell' 0 rfl, F8.out.cell' 1 rfl, F8.out.cell' 2 rfl⟩, ⟨D8.out.cell' 0 rfl, D8.out.cell' 1 rfl, D8.out.cell' 2 rfl⟩, H8.out.c1⟩ ?_
    refine take_MP 9 (v := .pointer (some ⟨w1.heap.size, 1, none⟩)) rfl (by kernel_rfl) (by kernel_rfl) (by kernel_rfl) (fun _ _ _ h => h) rfl (fun W' => by go_simp) ?_
    refine take_MU 10 (v := .int .i64 bk) rfl (by kernel_rfl) (by kernel_rfl) (by kernel_rfl) (fun _ _ _ h => h) rfl (fun W' hW' => by obtain ⟨⟨q0, q1, q2⟩, ⟨q3, q4, q5⟩, q6⟩ := hW'; go_simp) ⟨⟨F8.out.cell' 0 rfl, F8.out.cell' 1 rfl, F8.out.cell' 2 rfl⟩, ⟨D8.out.cell' 0 rfl, D8.out.cell' 1 rfl, D8.out.cell' 2 rfl⟩, H8.out.c1⟩ ?_
    refine take_MP 11 (v := .pointer (some ⟨w4.heap.size, 2, none⟩)) rfl (by kernel_rfl) (by kernel_rfl) (by kernel_rfl) (fun _ _ _ h => h) rfl (fun W' => by go_simp) ?_
    refine one_M 4 (by kernel_rfl) rfl rfl fun K4 hK4 => ?_
    have HK4 := Lib.hid hK4
    clear hK4
    go_simp
    refine (add_some _ _ _ _ _ _ _).mono ?_
    rintro e w9 ⟨tx, ty, tz, rfl, bb⟩
    have I9 := Lib.hid (I8.out.below bb)
    have F9 := Lib.hid (Blk.below F8.out bb F8.out.lt)
    have R9 := Lib.hid (Blk.below R8.out bb R8.out.lt)
    have H9 := Lib.hid (Blk.below H8.out bb H8.out.lt)
    have A9 := Lib.hid (Blk.below A8.out bb A8.out.lt)
    have D9 := Lib.hid (Blk.below D8.out bb D8.out.lt)
    have zz9 := bb.size
    clear I8 F8 R8 H8 A8 D8 bb
    have H9 : Hid (ItAt _ w1.heap.size { zeroI with block := bk }) := H9
    have R9 : Hid (ItAt _ (w.heap.size + 1) zeroI) := R9
    have A9 : Hid (ItAt _ w4.heap.size ai) := A9
    refine HK4.out _ _ ⟨fun _ _ => ⟨⟨A9.out.c5, A9.out.c6, A9.out.c7⟩, A9.out.c9, A9.out.c10, A9.out.c11⟩, fun _ => ⟨⟨F9.out.cell' 0 rfl, F9.out.cell' 1 rfl, F9.out.cell' 2 rfl⟩, ⟨D9.out.cell' 0 rfl, D9.out.cell' 1 rfl, D9.out.cell' 2 rfl⟩, H9.out.c1⟩⟩ ?_
    clear HK4
    refine one_M 8 (by kernel_rfl) rfl rfl fun K8 hK8 => ?_
    have HK8 := Lib.hid hK8
    clear hK8
    go_simp
    refine (add_some _ _ _ _ _ _ _).mono ?_
    rintro e w10 ⟨cx, cy, cz, rfl, bb⟩
    have I10 := Lib.hid (I9.out.below bb)
    have F10 := Lib.hid (Blk.below F9.out bb F9.out.lt)
    have R10 := Lib.hid (Blk.below R9.out bb R9.out.lt)
    have H10 := Lib.hid (Blk.below H9.out bb H9.out.lt)
    have A10 := Lib.hid (Blk.below A9.out bb A9.out.lt)
    have D10 := Lib.hid (Blk.below D9.out bb D9.out.lt)
    have zz10 := bb.size
    clear I9 F9 R9 H9 A9 D9 bb
    have H10 : Hid (ItAt _ w1.heap.size { zeroI with block := bk }) := H10
    have R10 : Hid (ItAt _ (w.heap.size + 1) zeroI) := R10
    have A10 : Hid (ItAt _ w4.heap.size ai) := A10
    refine HK8.out _ _ ⟨fun _ _ => ⟨⟨A10.out.c5, A10.out.c6, A10.out.c7⟩, A10.out.c9, A10.out.c10, A10.out.c11⟩, fun _ => ⟨⟨F10.out.cell' 0 rfl, F10.out.cell' 1 rfl, F10.out.cell' 2 rfl⟩, ⟨D10.out.cell' 0 rfl, D10.out.cell' 1 rfl, D10.out.cell' 2 rfl⟩, H10.out.c1⟩⟩ ?_
    clear HK8
    have f2 := Blk.frozen A10.out 2
    have r2 := A10.out.c2
    have f3 := Blk.frozen A10.out 3
    have r3 := A10.out.c3
    have f4 := Blk.frozen A10.out 4
    have r4 := A10.out.c4
    refine one_M 12 (by kernel_rfl) rfl rfl fun K12 hK12 => ?_
    have HK12 := Lib.hid hK12
    clear hK12
    go_simp
    have I11 := Lib.hid (((I10.out.set (b := w4.heap.size) (by omega) 2 (.int .i64 x)).set (b := w4.heap.size) (by omega) 3 (.int .i64 y)).set (b := w4.heap.size) (by omega) 4 (.int .i64 u))
    have F11 := Lib.hid (Blk.skip (Blk.skip (Blk.skip F10.out (p := ⟨w4.heap.size, 2, none⟩) (by show w.heap.size ≠ w4.heap.size; omega) (.int .i64 x)) (p := ⟨w4.heap.size, 3, none⟩) (by show w.heap.size ≠ w4.heap.size; omega) (.int .i64 y)) (p := ⟨w4.heap.size, 4, none⟩) (by show w.heap.size ≠ w4.heap.size; omega) (.int .i64 u))
    have R11 := Lib.hid (ItAt.far (ItAt.far (ItAt.far R10.out (p := ⟨w4.heap.size, 2, none⟩) (by show (w.heap.size + 1) ≠ w4.heap.size; omega) (.int .i64 x)) (p := ⟨w4.heap.size, 3, none⟩) (by show (w.heap.size + 1) ≠ w4.heap.size; omega) (.int .i64 y)) (p := ⟨w4.heap.size, 4, none⟩) (by show (w.heap.size + 1) ≠ w4.heap.size; omega) (.int .i64 u))
    have H11 := Lib.hid (ItAt.far (ItAt.far (ItAt.far H10.out (p := ⟨w4.heap.size, 2, none⟩) (by show w1.heap.size ≠ w4.heap.size; omega) (.int .i64 x)) (p := ⟨w4.heap.size, 3, none⟩) (by show w1.heap.size ≠ w4.heap.size; omega) (.int .i64 y)) (p := ⟨w4.heap.size, 4, none⟩) (by show w1.heap.size ≠ w4.heap.size; omega) (.int .i64 u))
    have A11 := Lib.hid (((A10.out.s2 x).s3 y).s4 u)
    have D11 := Lib.hid (Blk.skip (Blk.skip (Blk.skip D10.out (p := ⟨w4.heap.size, 2, none⟩) (by show w6.heap.size ≠ w4.heap.size; omega) (.int .i64 x)) (p := ⟨w4.heap.size, 3, none⟩) (by show w6.heap.size ≠ w4.heap.size; omega) (.int .i64 y)) (p := ⟨w4.heap.size, 4, none⟩) (by show w6.heap.size ≠ w4.heap.size; omega) (.int .i64 u))
    clear f2 r2 f3 r3 f4 r4 I10 F10 R10 H10 A10 D10
    refine HK12.out _ _ ⟨fun _ _ => ⟨⟨A11.out.c5, A11.out.c6, A11.out.c7⟩, A11.out.c9, A11.out.c10, A11.out.c11⟩, fun _ => ⟨⟨F11.out.cell' 0 rfl, F11.out.cell' 1 rfl, F11.out.cell' 2 rfl⟩, ⟨D11.out.cell' 0 rfl, D11.out.cell' 1 rfl, D11.out.cell' 2 rfl⟩, H11.out.c1⟩⟩ ?_
    clear HK12
    refine take_MP 13 (v := .pointer (some ⟨w4.heap.size, 5, none⟩)) rfl (by kernel_rfl) (by kernel_rfl) (by kernel_rfl) (fun _ _ _ h => h) rfl (fun W' => by go_simp) ?_
    have f5 := Blk.frozen A11.out 5
    have r5 := A11.out.c5
    have f6 := Blk.frozen A11.out 6
    have r6 := A11.out.c6
    have f7 := Blk.frozen A11.out 7
    have r7 := A11.out.c7
    refine one_M 14 (by kernel_rfl) rfl rfl fun K14 hK14 => ?_
    have HK14 := Lib.hid hK14
    clear hK14
    go_simp
    have I12 := Lib.hid (((I11.out.set (b := w4.heap.size) (by omega) 5 (.int .i64 tx)).set (b := w4.heap.size) (by omega) 6 (.int .i64 ty)).set (b := w4.heap.size) (by omega) 7 (.int .i64 tz))
    have F12 := Lib.hid (Blk.skip (Blk.skip (Blk.skip F11.out (p := ⟨w4.heap.size, 5, none⟩) (by show w.heap.size ≠ w4.heap.size; omega) (.int .i64 tx)) (p := ⟨w4.heap.size, 6, none⟩) (by show w.heap.size ≠ w4.heap.size; omega) (.int .i64 ty)) (p := ⟨w4.heap.size, 7, none⟩) (by show w.heap.size ≠ w4.heap.size; omega) (.int .i64 tz))
    have R12 := Lib.hid (ItAt.far (ItAt.far (ItAt.far R11.out (p := ⟨w4.heap.size, 5, none⟩) (by show (w.heap.size + 1) ≠ w4.heap.size; omega) (.int .i64 tx)) (p := ⟨w4.heap.size, 6, none⟩) (by show (w.heap.size + 1) ≠ w4.heap.size; omega) (.int .i64 ty)) (p := ⟨w4.heap.size, 7, none⟩) (by show (w.heap.size + 1) ≠ w4.heap.size; omega) (.int .i64 tz))
    have H12 := Lib.hid (ItAt.far (ItAt.far (ItAt.far H11.out (p := ⟨w4.heap.size, 5, none⟩) (by show w1.heap.size ≠ w4.heap.size; omega) (.int .i64 tx)) (p := ⟨w4.heap.size, 6, none⟩) (by show w1.heap.size ≠ w4.heap.size; omega) (.int .i64 ty)) (p := ⟨w4.heap.size, 7, none⟩) (by show w1.heap.size ≠ w4.heap.size; omega) (.int .i64 tz))
    have A12 := Lib.hid (((A11.out.s5 tx).s6 ty).s7 tz)
    have D12 := Lib.hid (Blk.skip (Blk.skip (Blk.skip D11.out (p := ⟨w4.heap.size, 5, none⟩) (by show w6.heap.size ≠ w4.heap.size; omega) (.int .i64 tx)) (p := ⟨w4.heap.size, 6, none⟩) (by show w6.heap.size ≠ w4.heap.size; omega) (.int .i64 ty)) (p := ⟨w4.heap.size, 7, none⟩) (by show w6.heap.size ≠ w4.heap.size; omega) (.int .i64 tz))
    clear f5 r5 f6 r6 f7 r7 I11 F11 R11 H11 A11 D11
    refine HK14.out _ _ ⟨fun h => absurd h (by decide), fun _ => ⟨⟨F12.out.cell' 0 rfl, F12.out.cell' 1 rfl, F12.out.cell' 2 rfl⟩, ⟨D12.out.cell' 0 rfl, D12.out.cell' 1 rfl, D12.out.cell' 2 rfl⟩, H12.out.c1⟩⟩ ?_
    clear HK14
    refine take_MP 15 (v := .pointer (some ⟨w4.heap.size, 9, none⟩)) rfl (by kernel_rfl) (by kernel_rfl) (by kernel_rfl) (fun _ _ _ h => h) rfl (fun W' => by go_simp) ?_
    have f9 := Blk.frozen A12.out 9
    have r9 := A12.out.c9
    have f10 := Blk.frozen A12.out 10
    have r10 := A12.out.c10
    have f11 := Blk.frozen A12.out 11
    have r11 := A12.out.c11
    refine one_M 16 (by kernel_rfl) rfl rfl fun K16 hK16 => ?_
    have HK16 := Lib.hid hK16
    clear hK16
    go_simp
    have I13 := Lib.hid (((I12.out.set (b := w4.heap.size) (by omega) 9 (.int .i64 cx)).set (b := w4.heap.size) (by omega) 10 (.int .i64 cy)).set (b := w4.heap.size) (by omega) 11 (.int .i64 cz))
    have F13 := Lib.hid (Blk.skip (Blk.skip (Blk.skip F12.out (p := ⟨w4.heap.size, 9, none⟩) (by show w.heap.size ≠ w4.heap.size; omega) (.int .i64 cx)) (p := ⟨w4.heap.size, 10, none⟩) (by show w.heap.size ≠ w4.heap.size; omega) (.int .i64 cy)) (p := ⟨w4.heap.size, 11, none⟩) (by show w.heap.size ≠ w4.heap.size; omega) (.int .i64 cz))
    have R13 := Lib.hid (ItAt.far (ItAt.far (ItAt.far R12.out (p := ⟨w4.heap.size, 9, none⟩) (by show (w.heap.size + 1) ≠ w4.heap.size; omega) (.int .i64 cx)) (p := ⟨w4.heap.size, 10, none⟩) (by show (w.heap.size + 1) ≠ w4.heap.size; omega) (.int .i64 cy)) (p := ⟨w4.heap.size, 11, none⟩) (by show (w.heap.size + 1) ≠ w4.heap.size; omega) (.int .i64 cz))
    have H13 := Lib.hid (ItAt.far (ItAt.far (ItAt.far H12.out (p := ⟨w4.heap.size, 9, none⟩) (by show w1.heap.size ≠ w4.heap.size; omega) (.int .i64 cx)) (p := ⟨w4.heap.size, 10, none⟩) (by show w1.heap.size ≠ w4.heap.size; omega) (.int .i64 cy)) (p := ⟨w4.heap.size, 11, none⟩) (by show w1.heap.size ≠ w4.heap.size; omega) (.int .i64 cz))
    have A13 := Lib.hid (((A12.out.s9 cx).s10 cy).s11 cz)
    have D13 := Lib.hid (Blk.skip (Blk.skip (Blk.skip D12.out (p := ⟨w4.heap.size, 9, none⟩) (by show w6.heap.size ≠ w4.heap.size; omega) (.int .i64 cx)) (p := ⟨w4.heap.size, 10, none⟩) (by show w6.heap.size ≠ w4.heap.size; omega) (.int .i64 cy)) (p := ⟨w4.heap.size, 11, none⟩) (by show w6.heap.size ≠ w4.heap.size; omega) (.int .i64 cz))
    clear f9 r9 f10 r10 f11 r11 I12 F12 R12 H12 A12 D12
    refine HK16.out _ _ ⟨fun h => absurd h (by decide), fun _ => ⟨⟨F13.out.cell' 0 rfl, F13.out.cell' 1 rfl, F13.out.cell' 2 rfl⟩, ⟨D13.out.cell' 0 rfl, D13.out.cell' 1 rfl, D13.out.cell' 2 rfl⟩, H13.out.c1⟩⟩ ?_
    clear HK16
    refine take_MP 17 (v := .pointer (some ⟨w4.heap.size, 1, none⟩)) rfl (by kernel_rfl) (by kernel_rfl) (by kernel_rfl) (fun _ _ _ h => h) rfl (fun W' => by go_simp) ?_
    have f1 := Blk.frozen A13.out 1
    have r1 := A13.out.c1
    refine one_M 18 (by kernel_rfl) rfl rfl fun K18 hK18 => ?_
    have HK18 := Lib.hid hK18
    clear hK18
    go_simp
    have I14 := Lib.hid (I13.out.set (b := w4.heap.size) (by omega) 1 (.int .i64 bk))
    have F14 := Lib.hid (Blk.skip F13.out (p := ⟨w4.heap.size, 1, none⟩) (by show w.heap.size ≠ w4.heap.size; omega) (.int .i64 bk))
    have R14 := Lib.hid (ItAt.far R13.out (p := ⟨w4.heap.size, 1, none⟩) (by show (w.heap.size + 1) ≠ w4.heap.size; omega) (.int .i64 bk))
    have H14 := Lib.hid (ItAt.far H13.out (p := ⟨w4.heap.size, 1, none⟩) (by show w1.heap.size ≠ w4.heap.size; omega) (.int .i64 bk))
    have A14 := Lib.hid (A13.out.s1 bk)
    have D14 := Lib.hid (Blk.skip D13.out (p := ⟨w4.heap.size, 1, none⟩) (by show w6.heap.size ≠ w4.heap.size; omega) (.int .i64 bk))
    clear f1 r1 I13 F13 R13 H13 A13 D13
    refine HK18.out _ _ ⟨fun _ h => ⟨⟨(by have := h.1.1; go_simp), (by have := h.1.2.1; go_simp), (by have := h.1.2.2; go_simp)⟩, (by have := h.2.1; go_simp), (by have := h.2.2.1; go_simp), (by have := h.2.2.2; go_simp)⟩, fun _ => ⟨⟨F14.out.cell' 0 rfl, F14.out.cell' 1 rfl, F14.out.cell' 2 rfl⟩, ⟨D14.out.cell' 0 rfl, D14.out.cell' 1 rfl, D14.out.cell' 2 rfl⟩, H14.out.c1⟩⟩ ?_
    clear HK18
    refine done_M (by kernel_rfl) ?_ _
    obtain ⟨ob, hob, AB⟩ : ∃ o, Hid (o = _) ∧ Hid (ItAt _ w4.heap.size o) := ⟨_, Lib.hid rfl, A14⟩
    refine on_told (fun W => GI B g a n c z w W ∧ ItAt W (w.heap.size + 1) zeroI ∧ ItAt W w4.heap.size ob) ⟨I14.out, R14.out, AB.out⟩ ?_
    clear I14 F14 R14 H14 A14 D14 AB
    rintro W ⟨I, RZ, AZ⟩
    have lt1 := RZ.lt
    have lt2 := AZ.lt
    have I := Lib.hid I
    have RZ := Lib.hid RZ
    have AZ := Lib.hid AZ
    go_simp
    go_wp2_with (first | ((with_reducible refine go_loadI (.tmp 6) w4.heap.size ob (by with_unfolding_all rfl) AZ.out ?_)) | ((with_reducible refine go_storeI (.tmp 4) (.tmp 78) (w.heap.size + 1) ob zeroI (by with_unfolding_all rfl) (by with_unfolding_all rfl) RZ.out ?_)))
    refine bodyPost_ret (results_cell_row rfl _ _ (w.heap.size + 1) 25 (itA ob) (0, 0) _ rfl (show Blk _ _ _ _ from ItAt.row (o := zeroI) RZ.out _) Tryz.underlying25 rfl (by kernel_rfl)) rfl ?_
    exact ⟨ob, (by rw [hob.out]; exact ⟨by simp [hai], by simp [hai], fun _ => ⟨rfl, rfl, rfl⟩⟩), rfl, I.out.row (by omega) _⟩
  · go_wp2_with fail
    refine wp_region_held_drew (S := fun W => W.cell? ⟨w.heap.size, 0, none⟩ = some (.int .i64 x) ∧ W.cell? ⟨w.heap.size, 1, none⟩ = some (.int .i64 y) ∧ W.cell? ⟨w.heap.size, 2, none⟩ = some (.int .i64 u)) (by kernel_rfl) ⟨F3.out.cell' 0 rfl, F3.out.cell' 1 rfl, F3.out.cell' 2 rfl⟩ fun hS0 => ?_
    have I4 := Lib.hid I3.out.drew
    have F4 := Lib.hid F3.out.drew
    have R4 := Lib.hid R3.out.drew
    have H4 := Lib.hid H3.out.drew
    clear I3 F3 R3 H3
    refine take_first 0 (v := .agg #[.int .i64 x, .int .i64 y, .int .i64 u]) rfl (by kernel_rfl) (by kernel_rfl) (by kernel_rfl) (fun _ _ _ h => h) rfl (fun W' hW' => by obtain ⟨q0, q1, q2⟩ := hW'; go_simp) hS0 ?_
    refine take_first 1 (v := .agg #[.int .i64 x, .int .i64 y, .int .i64 u]) rfl (by kernel_rfl) (by kernel_rfl) (by kernel_rfl) (fun _ _ _ h => h) rfl (fun W' hW' => by obtain ⟨q0, q1, q2⟩ := hW'; go_simp) hS0 ?_
    refine take_first 2 (v := .pointer (some ⟨g, 0, none⟩)) rfl (by kernel_rfl) (by kernel_rfl) (by kernel_rfl) (fun _ _ _ h => h) rfl (fun W' hW' => by go_simp) hS0 ?_
    refine take_first 5 (v := .pointer (some ⟨g, 0, none⟩)) rfl (by kernel_rfl) (by kernel_rfl) (by kernel_rfl) (fun _ _ _ h => h) rfl (fun W' hW' => by go_simp) hS0 ?_
    refine take_first 7 (v := .pointer (some ⟨w1.heap.size, 0, none⟩)) rfl (by kernel_rfl) (by kernel_rfl) (by kernel_rfl) (fun _ _ _ h => h) rfl (fun W' hW' => by go_simp) hS0 ?_
    refine one_next 3 (by kernel_rfl) rfl rfl fun K3 hK3 => ?_
    have HK3 := Lib.hid hK3
    clear hK3
    go_simp
    refine (svec_any _ B g a n c z 300 I4.out.src (by omega) (by omega)).mono ?_
    rintro e w5 ⟨dx, dy, du, hdx, hdy, hdu, rfl, gg⟩
    have I5 := Lib.hid (I4.out.trans gg)
    have F5 := Lib.hid (Blk.grown F4.out gg.gr (by intro e; injection e; omega))
    have R5 := Lib.hid (Blk.grown R4.out gg.gr (by intro e; injection e; omega))
    have H5 := Lib.hid (Blk.grown H4.out gg.gr (by intro e; injection e; omega))
    have zz5 := gg.gr.size
    clear I4 F4 R4 H4 gg
    have H5 : Hid (ItAt w5 w1.heap.size _) := H5
    have R5 : Hid (ItAt w5 (w.heap.size + 1) _) := R5
    refine HK3.out _ _ ⟨F5.out.cell' 0 rfl, F5.out.cell' 1 rfl, F5.out.cell' 2 rfl⟩ ?_
    clear HK3
    refine one_next 4 (by kernel_rfl) rfl rfl fun K4 hK4 => ?_
    have HK4 := Lib.hid hK4
    clear hK4
    go_simp
    refine (add_some _ _ _ _ _ _ _).mono ?_
    rintro e w6 ⟨tx, ty, tz, rfl, bb⟩
    have I6 := Lib.hid (I5.out.below bb)
    have F6 := Lib.hid (Blk.below F5.out bb F5.out.lt)
    have R6 := Lib.hid (Blk.below R5.out bb R5.out.lt)
    have H6 := Lib.hid (Blk.below H5.out bb H5.out.lt)
    have zz6 := bb.size
    clear I5 F5 R5 H5 bb
    have H6 : Hid (ItAt w6 w1.heap.size _) := H6
    have R6 : Hid (ItAt w6 (w.heap.size + 1) _) := R6
    refine HK4.out _ _ ⟨F6.out.cell' 0 rfl, F6.out.cell' 1 rfl, F6.out.cell' 2 rfl⟩ ?_
    clear HK4
    refine one_next 6 (by kernel_rfl) rfl rfl fun K6 hK6 => ?_
    have HK6 := Lib.hid hK6
    clear hK6
    go_simp
    refine (range_any _ B g a n c z 1 90000 I6.out.src (by omega) (by omega) (by omega)).mono ?_
    rintro e w7 ⟨fd, kfd, hlfd, hhfd, rfl, ss, gg⟩
    have I7 := Lib.hid (I6.out.next ss gg)
    have F7 := Lib.hid (Blk.grown F6.out gg (by intro e; injection e; omega))
    have R7 := Lib.hid (Blk.grown R6.out gg (by intro e; injection e; omega))
    have H7 := Lib.hid (Blk.grown H6.out gg (by intro e; injection e; omega))
    have zz7 := gg.size
    clear I6 F6 R6 H6 gg ss
    have H7 : Hid (ItAt w7 w1.heap.size _) := H7
    have R7 : Hid (ItAt w7 (w.heap.size + 1) _) := R7
    refine HK6.out _ _ ⟨F7.out.cell' 0 rfl, F7.out.cell' 1 rfl, F7.out.cell' 2 rfl⟩ ?_
    clear HK6
    have f0 := Blk.frozen H7.out 0
    have r0 := H7.out.c0
    refine one_next 8 (by kernel_rfl) rfl rfl fun K8 hK8 => ?_
    have HK8 := Lib.hid hK8
    clear hK8
    go_simp
    have I8 := Lib.hid (I7.out.set (b := w1.heap.size) (by omega) 0 (.int .i64 4))
    have F8 := Lib.hid (Blk.skip F7.out (p := ⟨w1.heap.size, 0, none⟩) (by show w.heap.size ≠ w1.heap.size; omega) (.int .i64 4))
    have R8 := Lib.hid (ItAt.far R7.out (p := ⟨w1.heap.size, 0, none⟩) (by show (w.heap.size + 1) ≠ w1.heap.size; omega) (.int .i64 4))
    have H8 := Lib.hid (H7.out.s0 4)
    clear f0 r0 I7 F7 R7 H7
    refine HK8.out _ _ ⟨F8.out.cell' 0 rfl, F8.out.cell' 1 rfl, F8.out.cell' 2 rfl⟩ ?_
    clear HK8
    refine take_first 9 (v := .pointer (some ⟨w1.heap.size, 2, none⟩)) rfl (by kernel_rfl) (by kernel_rfl) (by kernel_rfl) (fun _ _ _ h => h) rfl (fun W' hW' => by go_simp) ⟨F8.out.cell' 0 rfl, F8.out.cell' 1 rfl, F8.out.cell' 2 rfl⟩ ?_
    have f2 := Blk.frozen H8.out 2
    have r2 := H8.out.c2
    have f3 := Blk.frozen H8.out 3
    have r3 := H8.out.c3
    have f4 := Blk.frozen H8.out 4
    have r4 := H8.out.c4
    refine one_next 10 (by kernel_rfl) rfl rfl fun K10 hK10 => ?_
    have HK10 := Lib.hid hK10
    clear hK10
    go_simp
    have I9 := Lib.hid (((I8.out.set (b := w1.heap.size) (by omega) 2 (.int .i64 x)).set (b := w1.heap.size) (by omega) 3 (.int .i64 y)).set (b := w1.heap.size) (by omega) 4 (.int .i64 u))
    have F9 := Lib.hid (Blk.skip (Blk.skip (Blk.skip F8.out (p := ⟨w1.heap.size, 2, none⟩) (by show w.heap.size ≠ w1.heap.size; omega) (.int .i64 x)) (p := ⟨w1.heap.size, 3, none⟩) (by show w.heap.size ≠ w1.heap.size; omega) (.int .i64 y)) (p := ⟨w1.heap.size, 4, none⟩) (by show w.heap.size ≠ w1.heap.size; omega) (.int .i64 u))
    have R9 := Lib.hid (ItAt.far (ItAt.far (ItAt.far R8.out (p := ⟨w1.heap.size, 2, none⟩) (by show (w.heap.size + 1) ≠ w1.heap.size; omega) (.int .i64 x)) (p := ⟨w1.heap.size, 3, none⟩) (by show (w.heap.size + 1) ≠ w1.heap.size; omega) (.int .i64 y)) (p := ⟨w1.heap.size, 4, none⟩) (by show (w.heap.size + 1) ≠ w1.heap.size; omega) (.int .i64 u))
    have H9 := Lib.hid (((H8.out.s2 x).s3 y).s4 u)
    clear f2 r2 f3 r3 f4 r4 I8 F8 R8 H8
    refine HK10.out _ _ ⟨F9.out.cell' 0 rfl, F9.out.cell' 1 rfl, F9.out.cell' 2 rfl⟩ ?_
    clear HK10
    refine take_first 11 (v := .pointer (some ⟨w1.heap.size, 5, none⟩)) rfl (by kernel_rfl) (by kernel_rfl) (by kernel_rfl) (fun _ _ _ h => h) rfl (fun W' hW' => by go_simp) ⟨F9.out.cell' 0 rfl, F9.out.cell' 1 rfl, F9.out.cell' 2 rfl⟩ ?_
    have f5 := Blk.frozen H9.out 5
    have r5 := H9.out.c5
    have f6 := Blk.frozen H9.out 6
    have r6 := H9.out.c6
    have f7 := Blk.frozen H9.out 7
    have r7 := H9.out.c7
    refine one_next 12 (by kernel_rfl) rfl rfl fun K12 hK12 => ?_
    have HK12 := Lib.hid hK12
    clear hK12
    go_simp
    have I10 := Lib.hid (((I9.out.set (b := w1.heap.size) (by omega) 5 (.int .i64 tx)).set (b := w1.heap.size) (by omega) 6 (.int .i64 ty)).set (b := w1.heap.size) (by omega) 7 (.int .i64 tz))
    have F10 := Lib.hid (Blk.skip (Blk.skip (Blk.skip F9.out (p := ⟨w1.heap.size, 5, none⟩) (by show w.heap.size ≠ w1.heap.size; omega) (.int .i64 tx)) (p := ⟨w1.heap.size, 6, none⟩) (by show w.heap.size ≠ w1.heap.size; omega) (.int .i64 ty)) (p := ⟨w1.heap.size, 7, none⟩) (by show w.heap.size ≠ w1.heap.size; omega) (.int .i64 tz))
    have R10 := Lib.hid (ItAt.far (ItAt.far (ItAt.far R9.out (p := ⟨w1.heap.size, 5, none⟩) (by show (w.heap.size + 1) ≠ w1.heap.size; omega) (.int .i64 tx)) (p := ⟨w1.heap.size, 6, none⟩) (by show (w.heap.size + 1) ≠ w1.heap.size; omega) (.int .i64 ty)) (p := ⟨w1.heap.size, 7, none⟩) (by show (w.heap.size + 1) ≠ w1.heap.size; omega) (.int .i64 tz))
    have H10 := Lib.hid (((H9.out.s5 tx).s6 ty).s7 tz)
    clear f5 r5 f6 r6 f7 r7 I9 F9 R9 H9
    refine HK12.out _ _ ⟨F10.out.cell' 0 rfl, F10.out.cell' 1 rfl, F10.out.cell' 2 rfl⟩ ?_
    clear HK12
    refine take_first 13 (v := .pointer (some ⟨w1.heap.size, 14, none⟩)) rfl (by kernel_rfl) (by kernel_rfl) (by kernel_rfl) (fun _ _ _ h => h) rfl (fun W' hW' => by go_simp) ⟨F10.out.cell' 0 rfl, F10.out.cell' 1 rfl, F10.out.cell' 2 rfl⟩ ?_
    have f14 := Blk.frozen H10.out 14
    have r14 := H10.out.c14
    refine one_next 14 (by kernel_rfl) rfl rfl fun K14 hK14 => ?_
    have HK14 := Lib.hid hK14
    clear hK14
    go_simp
    have I11 := Lib.hid (I10.out.set (b := w1.heap.size) (by omega) 14 (.int .i64 fd))
    have F11 := Lib.hid (Blk.skip F10.out (p := ⟨w1.heap.size, 14, none⟩) (by show w.heap.size ≠ w1.heap.size; omega) (.int .i64 fd))
    have R11 := Lib.hid (ItAt.far R10.out (p := ⟨w1.heap.size, 14, none⟩) (by show (w.heap.size + 1) ≠ w1.heap.size; omega) (.int .i64 fd))
    have H11 := Lib.hid (H10.out.s14 fd)
    clear f14 r14 I10 F10 R10 H10
    refine HK14.out _ _ ⟨F11.out.cell' 0 rfl, F11.out.cell' 1 rfl, F11.out.cell' 2 rfl⟩ ?_
    clear HK14
    refine wpAnyH_done (by kernel_rfl) ?_ _
    obtain ⟨o12, ho12, H11⟩ : ∃ o, Hid (o = _) ∧ Hid (ItAt _ w1.heap.size o) := ⟨_, Lib.hid rfl, H11⟩
    refine on_told (fun W => GI B g a n c z w W ∧ Blk W w.heap.size 23 #[.int .i64 x, .int .i64 y, .int .i64 u] ∧ ItAt W (w.heap.size + 1) zeroI ∧ ItAt W w1.heap.size o12) ⟨I11.out, F11.out, R11.out, H11.out⟩ ?_
    clear I11 F11 R11 H11
    rintro W12 ⟨i12, f12, r12, h12⟩
    have I12 := Lib.hid i12
    have F12 := Lib.hid f12
    have R12 := Lib.hid r12
    have H12 := Lib.hid h12
    clear i12 f12 r12 h12
    go_simp
    obtain ⟨o13, ho13, H13⟩ : ∃ o, Hid (o = _) ∧ Hid (ItAt _ w1.heap.size o) := ⟨_, Lib.hid rfl, Lib.hid H12.out⟩
    have I13 := Lib.hid I12.out
    have R13 := Lib.hid R12.out
    have lt1 := R12.out.lt
    have lt2 := H12.out.lt
    clear I12 F12 R12 H12
    go_wp2_with (first | ((with_reducible refine go_loadI (.tmp 5) w1.heap.size o13 (by with_unfolding_all rfl) H13.out ?_)) | ((with_reducible refine go_storeI (.tmp 4) (.tmp 147) (w.heap.size + 1) o13 zeroI (by with_unfolding_all rfl) (by with_unfolding_all rfl) R13.out ?_)))
    refine bodyPost_ret (results_cell_row rfl _ _ (w.heap.size + 1) 25 (itA o13) (0, 0) _ rfl (show Blk _ _ _ _ from ItAt.row (o := zeroI) R13.out _) Tryz.underlying25 rfl (by kernel_rfl)) rfl ?_
    exact ⟨o13, (by rw [ho13.out, ho12.out]; exact ⟨by simp [zeroI], by simp [zeroI], fun _ => ⟨rfl, rfl, rfl⟩⟩), rfl, I13.out.row (by omega) _⟩
  · go_wp2_with fail
    refine wp_region_held_drew (S := fun W => W.cell? ⟨w.heap.size, 0, none⟩ = some (.int .i64 x) ∧ W.cell? ⟨w.heap.size, 1, none⟩ = some (.int .i64 y) ∧ W.cell? ⟨w.heap.size, 2, none⟩ = some (.int .i64 u)) (by kernel_rfl) ⟨F3.out.cell' 0 rfl, F3.out.cell' 1 rfl, F3.out.cell' 2 rfl⟩ fun hS0 => ?_
    have I4 := Lib.hid I3.out.drew
    have F4 := Lib.hid F3.out.drew
    have R4 := Lib.hid R3.out.drew
    have H4 := Lib.hid H3.out.drew
    clear I3 F3 R3 H3
    refine take_first 0 (v := .agg #[.int .i64 x, .int .i64 y, .int .i64 u]) rfl (by kernel_rfl) (by kernel_rfl) (by kernel_rfl) (fun _ _ _ h => h) rfl (fun W' hW' => by obtain ⟨q0, q1, q2⟩ := hW'; go_simp) hS0 ?_
    refine take_first 1 (v := .agg #[.int .i64 x, .int .i64 y, .int .i64 u]) rfl (by kernel_rfl) (by kernel_rfl) (by kernel_rfl) (fun _ _ _ h => h) rfl (fun W' hW' => by obtain ⟨q0, q1, q2⟩ := hW'; go_simp) hS0 ?_
    refine take_first 2 (v := .pointer (some ⟨g, 0, none⟩)) rfl (by kernel_rfl) (by kernel_rfl) (by kernel_rfl) (fun _ _ _ h => h) rfl (fun W' hW' => by go_simp) hS0 ?_
    refine take_first 5 (v := .pointer (some ⟨g, 0, none⟩)) rfl (by kernel_rfl) (by kernel_rfl) (by kernel_rfl) (fun _ _ _ h => h) rfl (fun W' hW' => by go_simp) hS0 ?_
    refine take_first 7 (v := .pointer (some ⟨g, 0, none⟩)) rfl (by kernel_rfl) (by kernel_rfl) (by kernel_rfl) (fun _ _ _ h => h) rfl (fun W' hW' => by go_simp) hS0 ?_
    refine take_first 9 (v := .pointer (some ⟨w1.heap.size, 0, none⟩)) rfl (by kernel_rfl) (by kernel_rfl) (by kernel_rfl) (fun _ _ _ h => h) rfl (fun W' hW' => by go_simp) hS0 ?_
    refine one_next 3 (by kernel_rfl) rfl rfl fun K3 hK3 => ?_
    have HK3 := Lib.hid hK3
    clear hK3
    go_simp
    refine (svec_any _ B g a n c z 300 I4.out.src (by omega) (by omega)).mono ?_
    rintro e w5 ⟨dx, dy, du, hdx, hdy, hdu, rfl, gg⟩
    have I5 := Lib.hid (I4.out.trans gg)
    have F5 := Lib.hid (Blk.grown F4.out gg.gr (by intro e; injection e; omega))
    have R5 := Lib.hid (Blk.grown R4.out gg.gr (by intro e; injection e; omega))
    have H5 := Lib.hid (Blk.grown H4.out gg.gr (by intro e; injection e; omega))
    have zz5 := gg.gr.size
    clear I4 F4 R4 H4 gg
    have H5 : Hid (ItAt w5 w1.heap.size _) := H5
    have R5 : Hid (ItAt w5 (w.heap.size + 1) _) := R5
    refine HK3.out _ _ ⟨F5.out.cell' 0 rfl, F5.out.cell' 1 rfl, F5.out.cell' 2 rfl⟩ ?_
    clear HK3
    refine one_next 4 (by kernel_rfl) rfl rfl fun K4 hK4 => ?_
    have HK4 := Lib.hid hK4
    clear hK4
    go_simp
    refine (add_some _ _ _ _ _ _ _).mono ?_
    rintro e w6 ⟨tx, ty, tz, rfl, bb⟩
    have I6 := Lib.hid (I5.out.below bb)
    have F6 := Lib.hid (Blk.below F5.out bb F5.out.lt)
    have R6 := Lib.hid (Blk.below R5.out bb R5.out.lt)
    have H6 := Lib.hid (Blk.below H5.out bb H5.out.lt)
    have zz6 := bb.size
    clear I5 F5 R5 H5 bb
    have H6 : Hid (ItAt w6 w1.heap.size _) := H6
    have R6 : Hid (ItAt w6 (w.heap.size + 1) _) := R6
    refine HK4.out _ _ ⟨F6.out.cell' 0 rfl, F6.out.cell' 1 rfl, F6.out.cell' 2 rfl⟩ ?_
    clear HK4
    refine one_next 6 (by kernel_rfl) rfl rfl fun K6 hK6 => ?_
    have HK6 := Lib.hid hK6
    clear hK6
    go_simp
    refine (range_any _ B g a n c z 1 9000 I6.out.src (by omega) (by omega) (by omega)).mono ?_
    rintro e w7 ⟨fd, kfd, hlfd, hhfd, rfl, ss, gg⟩
    have I7 := Lib.hid (I6.out.next ss gg)
    have F7 := Lib.hid (Blk.grown F6.out gg (by intro e; injection e; omega))
    have R7 := Lib.hid (Blk.grown R6.out gg (by intro e; injection e; omega))
    have H7 := Lib.hid (Blk.grown H6.out gg (by intro e; injection e; omega))
    have zz7 := gg.size
    clear I6 F6 R6 H6 gg ss
    have H7 : Hid (ItAt w7 w1.heap.size _) := H7
    have R7 : Hid (ItAt w7 (w.heap.size + 1) _) := R7
    refine HK6.out _ _ ⟨F7.out.cell' 0 rfl, F7.out.cell' 1 rfl, F7.out.cell' 2 rfl⟩ ?_
    clear HK6
    refine one_next 8 (by kernel_rfl) rfl rfl fun K8 hK8 => ?_
    have HK8 := Lib.hid hK8
    clear hK8
    go_simp
    refine (range_any _ B g a n c z 3 4 I7.out.src (by omega) (by omega) (by omega)).mono ?_
    rintro e w8 ⟨nn, knn, hlnn, hhnn, rfl, ss, gg⟩
    have I8 := Lib.hid (I7.out.next ss gg)
    have F8 := Lib.hid (Blk.grown F7.out gg (by intro e; injection e; omega))
    have R8 := Lib.hid (Blk.grown R7.out gg (by intro e; injection e; omega))
    have H8 := Lib.hid (Blk.grown H7.out gg (by intro e; injection e; omega))
    have zz8 := gg.size
    clear I7 F7 R7 H7 gg ss
    have H8 : Hid (ItAt w8 w1.heap.size _) := H8
    have R8 : Hid (ItAt w8 (w.heap.size + 1) _) := R8
    refine HK8.out _ _ ⟨F8.out.cell' 0 rfl, F8.out.cell' 1 rfl, F8.out.cell' 2 rfl⟩ ?_
    clear HK8
    have f0 := Blk.frozen H8.out 0
    have r0 := H8.out.c0
    refine one_next 10 (by kernel_rfl) rfl rfl fun K10 hK10 => ?_
    have HK10 := Lib.hid hK10
    clear hK10
    go_simp
    have I9 := Lib.hid (I8.out.set (b := w1.heap.size) (by omega) 0 (.int .i64 6))
    have F9 := Lib.hid (Blk.skip F8.out (p := ⟨w1.heap.size, 0, none⟩) (by show w.heap.size ≠ w1.heap.size; omega) (.int .i64 6))
    have R9 := Lib.hid (ItAt.far R8.out (p := ⟨w1.heap.size, 0, none⟩) (by show (w.heap.size + 1) ≠ w1.heap.size; omega) (.int .i64 6))
    have H9 := Lib.hid (H8.out.s0 6)
    clear f0 r0 I8 F8 R8 H8
    refine HK10.out _ _ ⟨F9.out.cell' 0 rfl, F9.out.cell' 1 rfl, F9.out.cell' 2 rfl⟩ ?_
    clear HK10
    refine take_first 11 (v := .pointer (some ⟨w1.heap.size, 2, none⟩)) rfl (by kernel_rfl) (by kernel_rfl) (by kernel_rfl) (fun _ _ _ h => h) rfl (fun W' hW' => by go_simp) ⟨F9.out.cell' 0 rfl, F9.out.cell' 1 rfl, F9.out.cell' 2 rfl⟩ ?_
    have f2 := Blk.frozen H9.out 2
    have r2 := H9.out.c2
    have f3 := Blk.frozen H9.out 3
    have r3 := H9.out.c3
    have f4 := Blk.frozen H9.out 4
    have r4 := H9.out.c4
    refine one_next 12 (by kernel_rfl) rfl rfl fun K12 hK12 => ?_
    have HK12 := Lib.hid hK12
    clear hK12
    go_simp
    have I10 := Lib.hid (((I9.out.set (b := w1.heap.size) (by omega) 2 (.int .i64 x)).set (b := w1.heap.size) (by omega) 3 (.int .i64 y)).set (b := w1.heap.size) (by omega) 4 (.int .i64 u))
    have F10 := Lib.hid (Blk.skip (Blk.skip (Blk.skip F9.out (p := ⟨w1.heap.size, 2, none⟩) (by show w.heap.size ≠ w1.heap.size; omega) (.int .i64 x)) (p := ⟨w1.heap.size, 3, none⟩) (by show w.heap.size ≠ w1.heap.size; omega) (.int .i64 y)) (p := ⟨w1.heap.size, 4, none⟩) (by show w.heap.size ≠ w1.heap.size; omega) (.int .i64 u))
    have R10 := Lib.hid (ItAt.far (ItAt.far (ItAt.far R9.out (p := ⟨w1.heap.size, 2, none⟩) (by show (w.heap.size + 1) ≠ w1.heap.size; omega) (.int .i64 x)) (p := ⟨w1.heap.size, 3, none⟩) (by show (w.heap.size + 1) ≠ w1.heap.size; omega) (.int .i64 y)) (p := ⟨w1.heap.size, 4, none⟩) (by show (w.heap.size + 1) ≠ w1.heap.size; omega) (.int .i64 u))
    have H10 := Lib.hid (((H9.out.s2 x).s3 y).s4 u)
    clear f2 r2 f3 r3 f4 r4 I9 F9 R9 H9
    refine HK12.out _ _ ⟨F10.out.cell' 0 rfl, F10.out.cell' 1 rfl, F10.out.cell' 2 rfl⟩ ?_
    clear HK12
    refine take_first 13 (v := .pointer (some ⟨w1.heap.size, 5, none⟩)) rfl (by kernel_rfl) (by kernel_rfl) (by kernel_rfl) (fun _ _ _ h => h) rfl (fun W' hW' => by go_simp) ⟨F10.out.cell' 0 rfl, F10.out.cell' 1 rfl, F10.out.cell' 2 rfl⟩ ?_
    have f5 := Blk.frozen H10.out 5
    have r5 := H10.out.c5
    have f6 := Blk.frozen H10.out 6
    have r6 := H10.out.c6
    have f7 := Blk.frozen H10.out 7
    have r7 := H10.out.c7
    refine one_next 14 (by kernel_rfl) rfl rfl fun K14 hK14 => ?_
    have HK14 := Lib.hid hK14
    clear hK14
    go_simp
    have I11 := Lib.hid (((I10.out.set (b := w1.heap.size) (by omega) 5 (.int .i64 tx)).set (b := w1.heap.size) (by omega) 6 (.int .i64 ty)).set (b := w1.heap.size) (by omega) 7 (.int .i64 tz))
    have F11 := Lib.hid (Blk.skip (Blk.skip (Blk.skip F10.out (p := ⟨w1.heap.size, 5, none⟩) (by show w.heap.size ≠ w1.heap.size; omega) (.int .i64 tx)) (p := ⟨w1.heap.size, 6, none⟩) (by show w.heap.size ≠ w1.heap.size; omega) (.int .i64 ty)) (p := ⟨w1.heap.size, 7, none⟩) (by show w.heap.size ≠ w1.heap.size; omega) (.int .i64 tz))
    have R11 := Lib.hid (ItAt.far (ItAt.far (ItAt.far R10.out (p := ⟨w1.heap.size, 5, none⟩) (by show (w.heap.size + 1) ≠ w1.heap.size; omega) (.int .i64 tx)) (p := ⟨w1.heap.size, 6, none⟩) (by show (w.heap.size + 1) ≠ w1.heap.size; omega) (.int .i64 ty)) (p := ⟨w1.heap.size, 7, none⟩) (by show (w.heap.size + 1) ≠ w1.heap.size; omega) (.int .i64 tz))
    have H11 := Lib.hid (((H10.out.s5 tx).s6 ty).s7 tz)
    clear f5 r5 f6 r6 f7 r7 I10 F10 R10 H10
    refine HK14.out _ _ ⟨F11.out.cell' 0 rfl, F11.out.cell' 1 rfl, F11.out.cell' 2 rfl⟩ ?_
    clear HK14
    refine take_first 15 (v := .pointer (some ⟨w1.heap.size, 14, none⟩)) rfl (by kernel_rfl) (by kernel_rfl) (by kernel_rfl) (fun _ _ _ h => h) rfl (fun W' hW' => by go_simp) ⟨F11.out.cell' 0 rfl, F11.out.cell' 1 rfl, F11.out.cell' 2 rfl⟩ ?_
    have f14 := Blk.frozen H11.out 14
    have r14 := H11.out.c14
    refine one_next 16 (by kernel_rfl) rfl rfl fun K16 hK16 => ?_
    have HK16 := Lib.hid hK16
    clear hK16
    go_simp
    have I12 := Lib.hid (I11.out.set (b := w1.heap.size) (by omega) 14 (.int .i64 fd))
    have F12 := Lib.hid (Blk.skip F11.out (p := ⟨w1.heap.size, 14, none⟩) (by show w.heap.size ≠ w1.heap.size; omega) (.int .i64 fd))
    have R12 := Lib.hid (ItAt.far R11.out (p := ⟨w1.heap.size, 14, none⟩) (by show (w.heap.size + 1) ≠ w1.heap.size; omega) (.int .i64 fd))
    have H12 := Lib.hid (H11.out.s14 fd)
    clear f14 r14 I11 F11 R11 H11
    refine HK16.out _ _ ⟨F12.out.cell' 0 rfl, F12.out.cell' 1 rfl, F12.out.cell' 2 rfl⟩ ?_
    clear HK16
    refine take_first 17 (v := .pointer (some ⟨w1.heap.size, 15, none⟩)) rfl (by kernel_rfl) (by kernel_rfl) (by kernel_rfl) (fun _ _ _ h => h) rfl (fun W' hW' => by go_simp) ⟨F12.out.cell' 0 rfl, F12.out.cell' 1 rfl, F12.out.cell' 2 rfl⟩ ?_
    have f15 := Blk.frozen H12.out 15
    have r15 := H12.out.c15
    refine one_next 18 (by kernel_rfl) rfl rfl fun K18 hK18 => ?_
    have HK18 := Lib.hid hK18
    clear hK18
    go_simp
    have I13 := Lib.hid (I12.out.set (b := w1.heap.size) (by omega) 15 (.bool true))
    have F13 := Lib.hid (Blk.skip F12.out (p := ⟨w1.heap.size, 15, none⟩) (by show w.heap.size ≠ w1.heap.size; omega) (.bool true))
    have R13 := Lib.hid (ItAt.far R12.out (p := ⟨w1.heap.size, 15, none⟩) (by show (w.heap.size + 1) ≠ w1.heap.size; omega) (.bool true))
    have H13 := Lib.hid (H12.out.s15 true)
    clear f15 r15 I12 F12 R12 H12
    refine HK18.out _ _ ⟨F13.out.cell' 0 rfl, F13.out.cell' 1 rfl, F13.out.cell' 2 rfl⟩ ?_
    clear HK18
    refine take_first 19 (v := .pointer (some ⟨w1.heap.size, 19, none⟩)) rfl (by kernel_rfl) (by kernel_rfl) (by kernel_rfl) (fun _ _ _ h => h) rfl (fun W' hW' => by go_simp) ⟨F13.out.cell' 0 rfl, F13.out.cell' 1 rfl, F13.out.cell' 2 rfl⟩ ?_
    have f19 := Blk.frozen H13.out 19
    have r19 := H13.out.c19
    refine one_next 20 (by kernel_rfl) rfl rfl fun K20 hK20 => ?_
    have HK20 := Lib.hid hK20
    clear hK20
    go_simp
    have I14 := Lib.hid (I13.out.set (b := w1.heap.size) (by omega) 19 (.int .i64 nn))
    have F14 := Lib.hid (Blk.skip F13.out (p := ⟨w1.heap.size, 19, none⟩) (by show w.heap.size ≠ w1.heap.size; omega) (.int .i64 nn))
    have R14 := Lib.hid (ItAt.far R13.out (p := ⟨w1.heap.size, 19, none⟩) (by show (w.heap.size + 1) ≠ w1.heap.size; omega) (.int .i64 nn))
    have H14 := Lib.hid (H13.out.s19 nn)
    clear f19 r19 I13 F13 R13 H13
    refine HK20.out _ _ ⟨F14.out.cell' 0 rfl, F14.out.cell' 1 rfl, F14.out.cell' 2 rfl⟩ ?_
    clear HK20
    refine wpAnyH_done (by kernel_rfl) ?_ _
    obtain ⟨o15, ho15, H14⟩ : ∃ o, Hid (o = _) ∧ Hid (ItAt _ w1.heap.size o) := ⟨_, Lib.hid rfl, H14⟩
    refine on_told (fun W => GI B g a n c z w W ∧ Blk W w.heap.size 23 #[.int .i64 x, .int .i64 y, .int .i64 u] ∧ ItAt W (w.heap.size + 1) zeroI ∧ ItAt W w1.heap.size o15) ⟨I14.out, F14.out, R14.out, H14.out⟩ ?_
    clear I14 F14 R14 H14
    rintro W15 ⟨i15, f15, r15, h15⟩
    have I15 := Lib.hid i15
    have F15 := Lib.hid f15
    have R15 := Lib.hid r15
    have H15 := Lib.hid h15
    clear i15 f15 r15 h15
    go_simp
    obtain ⟨o16, ho16, H16⟩ : ∃ o, Hid (o = _) ∧ Hid (ItAt _ w1.heap.size o) := ⟨_, Lib.hid rfl, Lib.hid H15.out⟩
    have I16 := Lib.hid I15.out
    have R16 := Lib.hid R15.out
    have lt1 := R15.out.lt
    have lt2 := H15.out.lt
    clear I15 F15 R15 H15
    go_wp2_with (first | ((with_reducible refine go_loadI (.tmp 5) w1.heap.size o16 (by with_unfolding_all rfl) H16.out ?_)) | ((with_reducible refine go_storeI (.tmp 4) (.tmp 147) (w.heap.size + 1) o16 zeroI (by with_unfolding_all rfl) (by with_unfolding_all rfl) R16.out ?_)))
    refine bodyPost_ret (results_cell_row rfl _ _ (w.heap.size + 1) 25 (itA o16) (0, 0) _ rfl (show Blk _ _ _ _ from ItAt.row (o := zeroI) R16.out _) Tryz.underlying25 rfl (by kernel_rfl)) rfl ?_
    exact ⟨o16, (by rw [ho16.out, ho15.out]; exact ⟨by simp [zeroI], by simp [zeroI], fun _ => ⟨rfl, rfl, rfl⟩⟩), rfl, I16.out.row (by omega) _⟩
  · go_wp2_with fail
    refine (next_any _ B g a n c z 100 I3.out.src (by omega) (by omega)).mono ?_
    rintro e w4 ⟨nn, knn, hlnn, hhnn, rfl, ss, gg⟩
    have I4 := Lib.hid (I3.out.next ss gg)
    have F4 := Lib.hid (Blk.grown F3.out gg (by intro e; injection e; omega))
    have R4 := Lib.hid (Blk.grown R3.out gg (by intro e; injection e; omega))
    have H4 := Lib.hid (Blk.grown H3.out gg (by intro e; injection e; omega))
    have zz4 := gg.size
    clear I3 F3 R3 H3 gg ss
    have H4 : Hid (ItAt w4 w1.heap.size _) := H4
    have R4 : Hid (ItAt w4 (w.heap.size + 1) _) := R4
    have f0 := Blk.frozen H4.out 0
    have r0 := H4.out.c0
    have f19 := Blk.frozen H4.out 19
    have r19 := H4.out.c19
    obtain ⟨o5, ho5, H5⟩ : ∃ o, Hid (o = _) ∧ Hid (ItAt _ w1.heap.size o) := ⟨_, Lib.hid rfl, Lib.hid ((H4.out.s0 7).s19 nn)⟩
    have I5 := Lib.hid ((I4.out.set (b := w1.heap.size) (by omega) 0 (.int .i64 7)).set (b := w1.heap.size) (by omega) 19 (.int .i64 nn))
    have R5 := Lib.hid (ItAt.far (ItAt.far R4.out (p := ⟨w1.heap.size, 0, none⟩) (by show (w.heap.size + 1) ≠ w1.heap.size; omega) (.int .i64 7)) (p := ⟨w1.heap.size, 19, none⟩) (by show (w.heap.size + 1) ≠ w1.heap.size; omega) (.int .i64 nn))
    have lt1 := R4.out.lt
    have lt2 := H4.out.lt
    clear I4 F4 R4 H4
    go_wp2_with (first | ((with_reducible refine go_loadI (.tmp 5) w1.heap.size o5 (by with_unfolding_all rfl) H5.out ?_)) | ((with_reducible refine go_storeI (.tmp 4) (.tmp 147) (w.heap.size + 1) o5 zeroI (by with_unfolding_all rfl) (by with_unfolding_all rfl) R5.out ?_)))
    refine bodyPost_ret (results_cell_row rfl _ _ (w.heap.size + 1) 25 (itA o5) (0, 0) _ rfl (show Blk _ _ _ _ from ItAt.row (o := zeroI) R5.out _) Tryz.underlying25 rfl (by kernel_rfl)) rfl ?_
    exact ⟨o5, (by rw [ho5.out]; exact ⟨by simp [zeroI], by simp [zeroI], fun h => absurd h (by simp [zeroI])⟩), rfl, I5.out.row (by omega) _⟩
  · go_wp2_with fail
    refine (range_any _ B g a n c z 3 5 I3.out.src (by omega) (by omega) (by omega)).mono ?_
    rintro e w4 ⟨nn, knn, hlnn, hhnn, rfl, ss, gg⟩
    have I4 := Lib.hid (I3.out.next ss gg)
    have F4 := Lib.hid (Blk.grown F3.out gg (by intro e; injection e; omega))
    have R4 := Lib.hid (Blk.grown R3.out gg (by intro e; injection e; omega))
    have H4 := Lib.hid (Blk.grown H3.out gg (by intro e; injection e; omega))
    have zz4 := gg.size
    clear I3 F3 R3 H3 gg ss
    have H4 : Hid (ItAt w4 w1.heap.size _) := H4
    have R4 : Hid (ItAt w4 (w.heap.size + 1) _) := R4
    have f0 := Blk.frozen H4.out 0
    have r0 := H4.out.c0
    have f19 := Blk.frozen H4.out 19
    have r19 := H4.out.c19
    by_cases h5 : nn < 5
    · have d5 : decide (nn < 5) = true := decide_eq_true h5
      go_wp2_with fail
      refine calls_told (fun W => GI B g a n c z w W ∧ Blk W w.heap.size 23 #[.int .i64 x, .int .i64 y, .int .i64 u] ∧ ItAt W (w.heap.size + 1) zeroI ∧ ItAt W w1.heap.size { zeroI with block := bk, kind := 8, n := nn }) ⟨((I4.out.set (b := w1.heap.size) (by omega) 0 (.int .i64 8)).set (b := w1.heap.size) (by omega) 19 (.int .i64 nn)), (Blk.skip (Blk.skip F4.out (p := ⟨w1.heap.size, 0, none⟩) (by show w.heap.size ≠ w1.heap.size; omega) (.int .i64 8)) (p := ⟨w1.heap.size, 19, none⟩) (by show w.heap.size ≠ w1.heap.size; omega) (.int .i64 nn)), (ItAt.far (ItAt.far R4.out (p := ⟨w1.heap.size, 0, none⟩) (by show (w.heap.size + 1) ≠ w1.heap.size; omega) (.int .i64 8)) (p := ⟨w1.heap.size, 19, none⟩) (by show (w.heap.size + 1) ≠ w1.heap.size; omega) (.int .i64 nn)), ((H4.out.s0 8).s19 nn)⟩ ?_
      clear I4 F4 R4 H4 f0 r0 f19 r19
      rintro W5 ⟨i5, f5, r5, h5⟩
      have I5 := Lib.hid i5
      have F5 := Lib.hid f5
      have R5 := Lib.hid r5
      have H5 := Lib.hid h5
      clear i5 f5 r5 h5
      refine (next_any _ B g a n c z 9000 I5.out.src (by omega) (by omega)).mono ?_
      rintro e w6 ⟨sp, ksp, hlsp, hhsp, rfl, ss, gg⟩
      have I6 := Lib.hid (I5.out.next ss gg)
      have F6 := Lib.hid (Blk.grown F5.out gg (by intro e; injection e; omega))
      have R6 := Lib.hid (Blk.grown R5.out gg (by intro e; injection e; omega))
      have H6 := Lib.hid (Blk.grown H5.out gg (by intro e; injection e; omega))
      have zz6 := gg.size
      clear I5 F5 R5 H5 gg ss
      have H6 : Hid (ItAt w6 w1.heap.size _) := H6
      have R6 : Hid (ItAt w6 (w.heap.size + 1) _) := R6
      have f20 := Blk.frozen H6.out 20
      have r20 := H6.out.c20
      obtain ⟨o7, ho7, H7⟩ : ∃ o, Hid (o = _) ∧ Hid (ItAt _ w1.heap.size o) := ⟨_, Lib.hid rfl, Lib.hid (H6.out.s20 sp)⟩
      have I7 := Lib.hid (I6.out.set (b := w1.heap.size) (by omega) 20 (.int .i64 sp))
      have R7 := Lib.hid (ItAt.far R6.out (p := ⟨w1.heap.size, 20, none⟩) (by show (w.heap.size + 1) ≠ w1.heap.size; omega) (.int .i64 sp))
      have lt1 := R6.out.lt
      have lt2 := H6.out.lt
      clear I6 F6 R6 H6
      go_wp2_with (first | ((with_reducible refine go_loadI (.tmp 5) w1.heap.size o7 (by with_unfolding_all rfl) H7.out ?_)) | ((with_reducible refine go_storeI (.tmp 4) (.tmp 147) (w.heap.size + 1) o7 zeroI (by with_unfolding_all rfl) (by with_unfolding_all rfl) R7.out ?_)))
      refine bodyPost_ret (results_cell_row rfl _ _ (w.heap.size + 1) 25 (itA o7) (0, 0) _ rfl (show Blk _ _ _ _ from ItAt.row (o := zeroI) R7.out _) Tryz.underlying25 rfl (by kernel_rfl)) rfl ?_
      exact ⟨o7, (by rw [ho7.out]; exact ⟨by simp [zeroI], by simp [zeroI], fun h => absurd h (by simp [zeroI])⟩), rfl, I7.out.row (by omega) _⟩
    · have d5 : decide (nn < 5) = false := decide_eq_false h5
      clear f0 r0 f19 r19
      have f0 := Blk.frozen H4.out 0
      have r0 := H4.out.c0
      have f19 := Blk.frozen H4.out 19
      have r19 := H4.out.c19
      obtain ⟨o5, ho5, H5⟩ : ∃ o, Hid (o = _) ∧ Hid (ItAt _ w1.heap.size o) := ⟨_, Lib.hid rfl, Lib.hid ((H4.out.s0 8).s19 nn)⟩
      have I5 := Lib.hid ((I4.out.set (b := w1.heap.size) (by omega) 0 (.int .i64 8)).set (b := w1.heap.size) (by omega) 19 (.int .i64 nn))
      have R5 := Lib.hid (ItAt.far (ItAt.far R4.out (p := ⟨w1.heap.size, 0, none⟩) (by show (w.heap.size + 1) ≠ w1.heap.size; omega) (.int .i64 8)) (p := ⟨w1.heap.size, 19, none⟩) (by show (w.heap.size + 1) ≠ w1.heap.size; omega) (.int .i64 nn))
      have lt1 := R4.out.lt
      have lt2 := H4.out.lt
      clear I4 F4 R4 H4
      go_wp2_with (first | ((with_reducible refine go_loadI (.tmp 5) w1.heap.size o5 (by with_unfolding_all rfl) H5.out ?_)) | ((with_reducible refine go_storeI (.tmp 4) (.tmp 147) (w.heap.size + 1) o5 zeroI (by with_unfolding_all rfl) (by with_unfolding_all rfl) R5.out ?_)))
      refine bodyPost_ret (results_cell_row rfl _ _ (w.heap.size + 1) 25 (itA o5) (0, 0) _ rfl (show Blk _ _ _ _ from ItAt.row (o := zeroI) R5.out _) Tryz.underlying25 rfl (by kernel_rfl)) rfl ?_
      exact ⟨o5, (by rw [ho5.out]; exact ⟨by simp [zeroI], by simp [zeroI], fun h => absurd h (by simp [zeroI])⟩), rfl, I5.out.row (by omega) _⟩
  · go_wp2_with fail
    refine (range_any _ B g a n c z 7 8 I3.out.src (by omega) (by omega) (by omega)).mono ?_
    rintro e w4 ⟨nn, knn, hlnn, hhnn, rfl, ss, gg⟩
    have I4 := Lib.hid (I3.out.next ss gg)
    have F4 := Lib.hid (Blk.grown F3.out gg (by intro e; injection e; omega))
    have R4 := Lib.hid (Blk.grown R3.out gg (by intro e; injection e; omega))
    have H4 := Lib.hid (Blk.grown H3.out gg (by intro e; injection e; omega))
    have zz4 := gg.size
    clear I3 F3 R3 H3 gg ss
    have H4 : Hid (ItAt w4 w1.heap.size _) := H4
    have R4 : Hid (ItAt w4 (w.heap.size + 1) _) := R4
    go_wp2_with fail
    refine (next_any _ B g a n c z 2 I4.out.src (by omega) (by omega)).mono ?_
    rintro e w5 ⟨on, kon, hlon, hhon, rfl, ss, gg⟩
    have I5 := Lib.hid (I4.out.next ss gg)
    have F5 := Lib.hid (Blk.grown F4.out gg (by intro e; injection e; omega))
    have R5 := Lib.hid (Blk.grown R4.out gg (by intro e; injection e; omega))
    have H5 := Lib.hid (Blk.grown H4.out gg (by intro e; injection e; omega))
    have zz5 := gg.size
    clear I4 F4 R4 H4 gg ss
    have H5 : Hid (ItAt w5 w1.heap.size _) := H5
    have R5 : Hid (ItAt w5 (w.heap.size + 1) _) := R5
    have f0 := Blk.frozen H5.out 0
    have r0 := H5.out.c0
    have f19 := Blk.frozen H5.out 19
    have r19 := H5.out.c19
    have f21 := Blk.frozen H5.out 21
    have r21 := H5.out.c21
    obtain ⟨o6, ho6, H6⟩ : ∃ o, Hid (o = _) ∧ Hid (ItAt _ w1.heap.size o) := ⟨_, Lib.hid rfl, Lib.hid (((H5.out.s0 9).s19 nn).s21 ((on == 0)))⟩
    have I6 := Lib.hid (((I5.out.set (b := w1.heap.size) (by omega) 0 (.int .i64 9)).set (b := w1.heap.size) (by omega) 19 (.int .i64 nn)).set (b := w1.heap.size) (by omega) 21 (.bool ((on == 0))))
    have R6 := Lib.hid (ItAt.far (ItAt.far (ItAt.far R5.out (p := ⟨w1.heap.size, 0, none⟩) (by show (w.heap.size + 1) ≠ w1.heap.size; omega) (.int .i64 9)) (p := ⟨w1.heap.size, 19, none⟩) (by show (w.heap.size + 1) ≠ w1.heap.size; omega) (.int .i64 nn)) (p := ⟨w1.heap.size, 21, none⟩) (by show (w.heap.size + 1) ≠ w1.heap.size; omega) (.bool ((on == 0))))
    have lt1 := R5.out.lt
    have lt2 := H5.out.lt
    clear I5 F5 R5 H5
    go_wp2_with (first | ((with_reducible refine go_loadI (.tmp 5) w1.heap.size o6 (by with_unfolding_all rfl) H6.out ?_)) | ((with_reducible refine go_storeI (.tmp 4) (.tmp 147) (w.heap.size + 1) o6 zeroI (by with_unfolding_all rfl) (by with_unfolding_all rfl) R6.out ?_)))
    refine bodyPost_ret (results_cell_row rfl _ _ (w.heap.size + 1) 25 (itA o6) (0, 0) _ rfl (show Blk _ _ _ _ from ItAt.row (o := zeroI) R6.out _) Tryz.underlying25 rfl (by kernel_rfl)) rfl ?_
    exact ⟨o6, (by rw [ho6.out]; exact ⟨by simp [zeroI], by simp [zeroI], fun h => absurd h (by simp [zeroI])⟩), rfl, I6.out.row (by omega) _⟩
  · go_wp2_with fail
    refine (next_any _ B g a n c z 16 I3.out.src (by omega) (by omega)).mono ?_
    rintro e w4 ⟨nn, knn, hlnn, hhnn, rfl, ss, gg⟩
    have I4 := Lib.hid (I3.out.next ss gg)
    have F4 := Lib.hid (Blk.grown F3.out gg (by intro e; injection e; omega))
    have R4 := Lib.hid (Blk.grown R3.out gg (by intro e; injection e; omega))
    have H4 := Lib.hid (Blk.grown H3.out gg (by intro e; injection e; omega))
    have zz4 := gg.size
    clear I3 F3 R3 H3 gg ss
    have H4 : Hid (ItAt w4 w1.heap.size _) := H4
    have R4 : Hid (ItAt w4 (w.heap.size + 1) _) := R4
    go_wp2_with fail
    refine (next_any _ B g a n c z 2 I4.out.src (by omega) (by omega)).mono ?_
    rintro e w5 ⟨on, kon, hlon, hhon, rfl, ss, gg⟩
    have I5 := Lib.hid (I4.out.next ss gg)
    have F5 := Lib.hid (Blk.grown F4.out gg (by intro e; injection e; omega))
    have R5 := Lib.hid (Blk.grown R4.out gg (by intro e; injection e; omega))
    have H5 := Lib.hid (Blk.grown H4.out gg (by intro e; injection e; omega))
    have zz5 := gg.size
    clear I4 F4 R4 H4 gg ss
    have H5 : Hid (ItAt w5 w1.heap.size _) := H5
    have R5 : Hid (ItAt w5 (w.heap.size + 1) _) := R5
    have f0 := Blk.frozen H5.out 0
    have r0 := H5.out.c0
    have f19 := Blk.frozen H5.out 19
    have r19 := H5.out.c19
    have f21 := Blk.frozen H5.out 21
    have r21 := H5.out.c21
    obtain ⟨o6, ho6, H6⟩ : ∃ o, Hid (o = _) ∧ Hid (ItAt _ w1.heap.size o) := ⟨_, Lib.hid rfl, Lib.hid (((H5.out.s0 10).s19 nn).s21 ((on == 0)))⟩
    have I6 := Lib.hid (((I5.out.set (b := w1.heap.size) (by omega) 0 (.int .i64 10)).set (b := w1.heap.size) (by omega) 19 (.int .i64 nn)).set (b := w1.heap.size) (by omega) 21 (.bool ((on == 0))))
    have R6 := Lib.hid (ItAt.far (ItAt.far (ItAt.far R5.out (p := ⟨w1.heap.size, 0, none⟩) (by show (w.heap.size + 1) ≠ w1.heap.size; omega) (.int .i64 10)) (p := ⟨w1.heap.size, 19, none⟩) (by show (w.heap.size + 1) ≠ w1.heap.size; omega) (.int .i64 nn)) (p := ⟨w1.heap.size, 21, none⟩) (by show (w.heap.size + 1) ≠ w1.heap.size; omega) (.bool ((on == 0))))
    have lt1 := R5.out.lt
    have lt2 := H5.out.lt
    clear I5 F5 R5 H5
    go_wp2_with (first | ((with_reducible refine go_loadI (.tmp 5) w1.heap.size o6 (by with_unfolding_all rfl) H6.out ?_)) | ((with_reducible refine go_storeI (.tmp 4) (.tmp 147) (w.heap.size + 1) o6 zeroI (by with_unfolding_all rfl) (by with_unfolding_all rfl) R6.out ?_)))
    refine bodyPost_ret (results_cell_row rfl _ _ (w.heap.size + 1) 25 (itA o6) (0, 0) _ rfl (show Blk _ _ _ _ from ItAt.row (o := zeroI) R6.out _) Tryz.underlying25 rfl (by kernel_rfl)) rfl ?_
    exact ⟨o6, (by rw [ho6.out]; exact ⟨by simp [zeroI], by simp [zeroI], fun h => absurd h (by simp [zeroI])⟩), rfl, I6.out.row (by omega) _⟩
  · go_wp2_with fail
    refine calls_told (fun W => W.heap.size = w3.heap.size + 1 ∧ GI B g a n c z w W ∧ Blk W w.heap.size 23 #[.int .i64 x, .int .i64 y, .int .i64 u] ∧ ItAt W (w.heap.size + 1) zeroI ∧ ItAt W w1.heap.size { zeroI with block := bk } ∧ Blk W w3.heap.size 3 #[.int .i64 11, .int .i64 12, .int .i64 13]) ⟨by simp, I3.out.alloc _, F3.out.alloc _, Blk.alloc R3.out _, Blk.alloc H3.out _, Blk.new _ _ _⟩ ?_
    clear I3 F3 R3 H3
    rintro W4 ⟨zz4, i4, f4, r4, h4, kk4⟩
    have I4 := Lib.hid i4
    have F4 := Lib.hid f4
    have R4 := Lib.hid r4
    have H4 := Lib.hid h4
    have KK := Lib.hid kk4
    clear i4 f4 r4 h4 kk4
    refine (next_any _ B g a n c z 3 I4.out.src (by omega) (by omega)).mono ?_
    rintro e w5 ⟨rk, krk, hlrk, hhrk, rfl, ss, gg⟩
    obtain ⟨kd, hx, hk1, hk2⟩ := kinds3 rk hlrk hhrk
    have ck := ((KK.out.grown gg (by intro e; injection e; omega)).cell rk.toNat).trans hx
    clear KK hx
    have I5 := Lib.hid (I4.out.next ss gg)
    have F5 := Lib.hid (Blk.grown F4.out gg (by intro e; injection e; omega))
    have R5 := Lib.hid (Blk.grown R4.out gg (by intro e; injection e; omega))
    have H5 := Lib.hid (Blk.grown H4.out gg (by intro e; injection e; omega))
    have szz5 := gg.size
    clear I4 F4 R4 H4 ss gg
    have H5 : Hid (ItAt w5 w1.heap.size _) := H5
    have R5 : Hid (ItAt w5 (w.heap.size + 1) _) := R5
    have f0 := Blk.frozen H5.out 0
    have r0 := H5.out.c0
    obtain ⟨o6, ho6, H6⟩ : ∃ o, Hid (o = _) ∧ Hid (ItAt _ w1.heap.size o) := ⟨_, Lib.hid rfl, Lib.hid (H5.out.s0 kd)⟩
    have I6 := Lib.hid (I5.out.set (b := w1.heap.size) (by omega) 0 (.int .i64 kd))
    have R6 := Lib.hid (ItAt.far R5.out (p := ⟨w1.heap.size, 0, none⟩) (by show (w.heap.size + 1) ≠ w1.heap.size; omega) (.int .i64 kd))
    have lt1 := R5.out.lt
    have lt2 := H5.out.lt
    clear I5 F5 R5 H5
    go_wp2_with (first | ((with_reducible refine go_loadI (.tmp 5) w1.heap.size o6 (by with_unfolding_all rfl) H6.out ?_)) | ((with_reducible refine go_storeI (.tmp 4) (.tmp 147) (w.heap.size + 1) o6 zeroI (by with_unfolding_all rfl) (by with_unfolding_all rfl) R6.out ?_)))
    refine bodyPost_ret (results_cell_row rfl _ _ (w.heap.size + 1) 25 (itA o6) (0, 0) _ rfl (show Blk _ _ _ _ from ItAt.row (o := zeroI) R6.out _) Tryz.underlying25 rfl (by kernel_rfl)) rfl ?_
    exact ⟨o6, (by rw [ho6.out]; exact ⟨by simp [zeroI]; omega, by simp [zeroI]; omega, fun h => absurd h (by simp [zeroI]; omega)⟩), rfl, I6.out.row (by omega) _⟩
end Go.Proofs.YtefdjdipbnnoaaaGreatDoor

/-
  cncstage.spokes: any tape.
-/
import Derived.Test.YtefdjdipbnnoaaaGreatDoorStageA17
import Derived.Test.YtefdjdipbnnoaaaGreatDoorRArcC17
namespace Go.Proofs.YtefdjdipbnnoaaaGreatDoor
open Go Go.RowKit
set_option linter.unusedVariables false
set_option linter.unusedSimpArgs false

def Lm (x : Int) : Prop := -30000 ≤ x ∧ x ≤ 30000
def Lo (x : Int) : Prop := -20000 ≤ x ∧ x ≤ 20000
theorem Lo.lm {x : Int} (h : Lo x) : Lm x := by unfold Lo at h; unfold Lm; omega
def SpkPost (B g : Nat) (a : Option Addr) (n c : Nat) (z : Nat → Int) (w : World) (e : Ending) (w' : World) : Prop :=
  ∃ (au aw bu bw : Int) (full ok : Bool), Lm au ∧ Lm aw ∧ Lm bu ∧ Lm bw ∧ e = .returned (.tuple #[.agg #[.int .i64 au, .int .i64 aw], .agg #[.int .i64 bu, .int .i64 bw], .bool full, .bool ok]) ∧ GI B g a n c z w w'
theorem sizes3 (r : Int) (h0 : 0 ≤ r) (h1 : r < 3) : ∃ s : Int, (#[Value.int .i64 20, .int .i64 300, .int .i64 20000])[r.toNat]? = some (.int .i64 s) ∧ 0 ≤ s ∧ s ≤ 20000 := by
  rcases (show r = 0 ∨ r = 1 ∨ r = 2 by omega) with rfl | rfl | rfl
  · exact ⟨20, rfl, by omega, by omega⟩
  · exact ⟨300, rfl, by omega, by omega⟩
  · exact ⟨20000, rfl, by omega, by omega⟩
set_option maxRecDepth 100000 in
set_option maxHeartbeats 4000000 in
theorem sspokes_any (w : World) (B g : Nat) (a : Option Addr) (n c : Nat) (z : Nat → Int) (hs : ∃ k, Src w B g a n c z k) :
    Calls Tryz.prog 84 #[.pointer (some ⟨g, 0, none⟩)] w (SpkPost B g a n c z w) := by
  have J0 := Lib.hid (GI.refl hs)
  have hgl := (GI.refl hs).lt
  clear hs
  go_enter Tryz.func84, Tryz.ntmps84
  go_wp2_with fail
  refine calls_told (fun W => W.heap.size = w.heap.size + 3 ∧ GI B g a n c z w W ∧ Blk W w.heap.size 88 #[.int .i64 0, .int .i64 0] ∧ Blk W (w.heap.size + 1) 88 #[.int .i64 0, .int .i64 0] ∧ Blk W (w.heap.size + 2) 3 #[.int .i64 20, .int .i64 300, .int .i64 20000])
    ⟨by simp, ((J0.out.alloc _).alloc _).alloc _, ((Blk.new w _ _).alloc _).alloc _, (blk_new1 w _ _ _).alloc _, blk_new2 w _ _ _ _⟩ ?_
  rintro w0 ⟨z0, I0, P0, Q0, T0⟩
  refine (next_any w0 B g a n c z 3 I0.src (by omega) (by omega)).mono ?_
  rintro e w1 ⟨r, k1, h0, h1, rfl, s1, g1⟩
  obtain ⟨sz, hx, hz0, hz1⟩ := sizes3 r h0 h1
  have c1 : w1.cell? ⟨w.heap.size + 2, r.toNat, none⟩ = some (.int .i64 sz) := ((T0.grown g1 (by simp; omega)).cell _).trans hx
  have sz1 := g1.size
  have I1 := Lib.hid (I0.next s1 g1)
  have P1 := Lib.hid (P0.grown g1 (by simp; omega))
  have Q1 := Lib.hid (Q0.grown g1 (by simp; omega))
  clear I0 P0 Q0 T0 s1 g1 hx J0
  go_wp2_with fail
  refine (spt_any w1 B g a n c z sz I1.out.src (by omega) (by omega)).mono ?_
  rintro e w2 ⟨au, aw, hau, haw, rfl, G2⟩
  have sz2 := G2.size
  have I2 := I1.out.trans G2
  have P2 := G2.blk P1.out (by omega)
  have Q2 := G2.blk Q1.out (by omega)
  clear c1 I1 P1 Q1 G2
  have J2 := Lib.hid I2
  have P2 := Lib.hid P2
  have Q2 := Lib.hid Q2
  have hlu : Lo au := by unfold Lo; omega
  have hlw : Lo aw := by unfold Lo; omega
  clear I2 hau haw
  go_wp2_with fail
  refine calls_told (fun W => W.heap.size = w2.heap.size + 2 ∧ GI B g a n c z w W ∧ Blk W w.heap.size 88 #[.int .i64 0, .int .i64 0] ∧ Blk W (w.heap.size + 1) 88 #[.int .i64 0, .int .i64 0] ∧ Blk W w2.heap.size 88 #[.int .i64 au, .int .i64 aw] ∧ Blk W (w2.heap.size + 1) 88 #[.int .i64 au, .int .i64 aw])
    ⟨by simp, (J2.out.alloc _).alloc _, (P2.out.alloc _).alloc _, (Q2.out.alloc _).alloc _, (Blk.new w2 _ _).alloc _, blk_new1 w2 _ _ _⟩ ?_
  rintro w3 ⟨z3, I3, P3, Q3, A3, B3⟩
  clear J2 P2 Q2
  refine (next_any w3 B g a n c z 8 I3.src (by omega) (by omega)).mono ?_
  rintro e w4 ⟨r4, k4, h40, h41, rfl, s4, g4⟩
  have sz4 := g4.size
  have I4 := Lib.hid (I3.next s4 g4)
  have P4 := Lib.hid (P3.grown g4 (by intro e; injection e; omega))
  have Q4 := Lib.hid (Q3.grown g4 (by intro e; injection e; omega))
  have A4 := Lib.hid (A3.grown g4 (by intro e; injection e; omega))
  have B4 := Lib.hid (B3.grown g4 (by intro e; injection e; omega))
  obtain ⟨full, hfull⟩ : ∃ b, (r4 == 0) = b := ⟨_, rfl⟩
  clear I3 P3 Q3 A3 B3 s4 g4
  go_wp2_with fail
  refine (next_any w4 B g a n c z 4 I4.out.src (by omega) (by omega)).mono ?_
  rintro e w5 ⟨r5, k5, h50, h51, rfl, s5, g5⟩
  have sz5 := g5.size
  have I5 := Lib.hid (I4.out.next s5 g5)
  have P5 := Lib.hid (P4.out.grown g5 (by intro e; injection e; omega))
  have Q5 := Lib.hid (Q4.out.grown g5 (by intro e; injection e; omega))
  have A5 := Lib.hid (A4.out.grown g5 (by intro e; injection e; omega))
  have B5 := Lib.hid (B4.out.grown g5 (by intro e; injection e; omega))
  clear I4 P4 Q4 A4 B4 s5 g5 hfull h40 h41
  have n1 : IntKind.i64.wrap (-au) = -au := by rw [IntKind.wrap_i64]; unfold Lo at hlu; omega
  have n2 : IntKind.i64.wrap (-aw) = -aw := by rw [IntKind.wrap_i64]; unfold Lo at hlw; omega
  have a0 := A5.out.cell' 0 rfl
  have a1 := A5.out.cell' 1 rfl
  have b0 := B5.out.cell' 0 rfl
  have b1 := B5.out.cell' 1 rfl
  have f0 := B5.out.frozen 0
  have f1 := B5.out.frozen 1
  have e0 : ¬ w2.heap.size = w2.heap.size + 1 := by omega
  have e1 : ¬ w2.heap.size + 1 = w2.heap.size := by omega
  cases full
  · skip
    rcases (show r5 = 0 ∨ r5 = 1 ∨ r5 = 2 ∨ r5 = 3 by omega) with rfl | rfl | rfl | rfl
    · skip
      go_wp2_with fail
      refine calls_told (fun W => GI B g a n c z w W ∧ Blk W w.heap.size 88 #[.int .i64 0, .int .i64 0] ∧ Blk W (w.heap.size + 1) 88 #[.int .i64 0, .int .i64 0] ∧ Blk W w2.heap.size 88 #[.int .i64 au, .int .i64 aw] ∧ Blk W (w2.heap.size + 1) 88 #[.int .i64 (-aw), .int .i64 (au)])
        ⟨((I5.out.set (by omega) _ _).set (by omega) _ _), ((P5.out.skip (by show w.heap.size ≠ w2.heap.size + 1; omega) _).skip (by show w.heap.size ≠ w2.heap.size + 1; omega) _), ((Q5.out.skip (by show w.heap.size + 1 ≠ w2.heap.size + 1; omega) _).skip (by show w.heap.size + 1 ≠ w2.heap.size + 1; omega) _), ((A5.out.skip (by show w2.heap.size ≠ w2.heap.size + 1; omega) _).skip (by show w2.heap.size ≠ w2.heap.size + 1; omega) _), ((B5.out.put 0 _).put 1 _)⟩ ?_
      rintro W ⟨I5', P5', Q5', A5', B5'⟩
      refine (next_any W B g a n c z 3 I5'.src (by omega) (by omega)).mono ?_
      rintro e w6 ⟨r6, k6, h60, h61, rfl, s6, g6⟩
      have I6 := I5'.next s6 g6
      have P6 := P5'.grown g6 (by intro e; injection e; omega)
      have Q6 := Q5'.grown g6 (by intro e; injection e; omega)
      have A6 := A5'.grown g6 (by intro e; injection e; omega)
      have B6 := B5'.grown g6 (by intro e; injection e; omega)
      have sz6' := g6.size
      have hbu : Lm (-aw) := by unfold Lm; unfold Lo at hlu hlw; omega
      have hbw : Lm (au) := by unfold Lm; unfold Lo at hlu hlw; omega
      clear a0 a1 b0 b1 f0 f1 I5 P5 Q5 A5 B5 I5' P5' Q5' A5' B5' s6 g6 n1 n2
      by_cases hr6 : r6 = 0
      · subst hr6
        have I6h := Lib.hid I6
        have P6h := Lib.hid P6
        have Q6h := Lib.hid Q6
        have A6h := Lib.hid A6
        have B6h := Lib.hid B6
        clear I6 P6 Q6 A6 B6
        go_wp2_with fail
        refine region_L (fun W => W.cell? ⟨w2.heap.size + 1, 0, none⟩ = some (.int .i64 (-aw))) [6] (by kernel_rfl) ?_
        have hS0 : w6.drew.cell? ⟨w2.heap.size + 1, 0, none⟩ = some (.int .i64 (-aw)) := B6h.out.drew.cell' 0 rfl
        refine take_P 0 (v := .pointer (some ⟨w2.heap.size + 1, 0, none⟩)) rfl (by kernel_rfl) (by kernel_rfl) (by kernel_rfl) (fun _ _ _ h => h) rfl (fun W' => by go_simp) ?_
        refine take_L 1 (v := .int .i64 (-aw)) rfl (by kernel_rfl) (by kernel_rfl) (by kernel_rfl) (by kernel_rfl) (fun _ _ _ h => h) rfl (fun W' hW' => by go_simp) hS0 ?_
        refine take_P 2 (v := .pointer (some ⟨g, 0, none⟩)) rfl (by kernel_rfl) (by kernel_rfl) (by kernel_rfl) (fun _ _ _ h => h) rfl (fun W' => by go_simp) ?_
        refine one_L 3 (by kernel_rfl) rfl rfl fun K3 hK3 => ?_
        have HK3 := Lib.hid hK3
        clear hK3
        go_simp
        refine (range_any w6.drew B g a n c z (-2) 2 I6h.out.drew.src (by omega) (by omega) (by omega)).mono ?_
        rintro e w7 ⟨r7, k7, h70, h71, rfl, s7, g7⟩
        have I7 := Lib.hid (I6h.out.drew.next s7 g7)
        have P7 := Lib.hid (P6h.out.drew.grown g7 (by intro e; injection e; omega))
        have Q7 := Lib.hid (Q6h.out.drew.grown g7 (by intro e; injection e; omega))
        have A7 := Lib.hid (A6h.out.drew.grown g7 (by intro e; injection e; omega))
        have B7 := Lib.hid (B6h.out.drew.grown g7 (by intro e; injection e; omega))
        have sz7' : w6.heap.size ≤ w7.heap.size := g7.size
        have hq : IntKind.i64.wrap (-aw + r7) = -aw + r7 := by rw [IntKind.wrap_i64]; unfold Lo at hlu hlw; omega
        refine HK3.out _ _ (fun _ _ => B7.out.cell' 0 rfl) ?_
        clear hS0
        refine take_P 4 (v := .int .i64 (-aw + r7)) rfl (by kernel_rfl) (by kernel_rfl) (by kernel_rfl) (fun _ _ _ h => h) rfl (fun W' => by go_simp) ?_
        refine take_P 5 (v := .pointer (some ⟨w2.heap.size + 1, 0, none⟩)) rfl (by kernel_rfl) (by kernel_rfl) (by kernel_rfl) (fun _ _ _ h => h) rfl (fun W' => by go_simp) ?_
        have qf := B7.out.frozen 0
        have qc := B7.out.cell' 0 rfl
        refine one_L 6 (by kernel_rfl) rfl rfl fun K6 hK6 => ?_
        have HK6 := Lib.hid hK6
        clear hK6
        go_simp
        refine HK6.out _ _ (fun h => absurd h (by decide)) ?_
        refine done_L (by kernel_rfl) ?_ _
        have I6 := I7.out.set (b := w2.heap.size + 1) (by omega) 0 (.int .i64 (-aw + r7))
        have P6 := P7.out.skip (p := ⟨w2.heap.size + 1, 0, none⟩) (by show w.heap.size ≠ w2.heap.size + 1; omega) (.int .i64 (-aw + r7))
        have Q6 := Q7.out.skip (p := ⟨w2.heap.size + 1, 0, none⟩) (by show w.heap.size + 1 ≠ w2.heap.size + 1; omega) (.int .i64 (-aw + r7))
        have A6 := A7.out.skip (p := ⟨w2.heap.size + 1, 0, none⟩) (by show w2.heap.size ≠ w2.heap.size + 1; omega) (.int .i64 (-aw + r7))
        have B6 := B7.out.put 0 (.int .i64 (-aw + r7))
        have hbu : Lm (-aw + r7) := by unfold Lo at hlu hlw; unfold Lm; omega
        clear qf qc hq s7 g7 HK3 HK6 I7 P7 Q7 A7 B7 I6h P6h Q6h A6h B6h
        refine on_told (fun W => GI B g a n c z w W ∧ Blk W w.heap.size 88 #[.int .i64 0, .int .i64 0] ∧ Blk W (w.heap.size + 1) 88 #[.int .i64 0, .int .i64 0] ∧ Blk W w2.heap.size 88 #[.int .i64 au, .int .i64 aw] ∧ Blk W (w2.heap.size + 1) 88 #[.int .i64 (-aw + r7), .int .i64 (au)]) ⟨I6, P6, Q6, A6, B6⟩ ?_
        clear I6 P6 Q6 A6 B6
        rintro W6 ⟨I6, P6, Q6, A6, B6⟩
        go_simp
        go_wp2_with fail
        have a0 := A6.cell' 0 rfl
        have a1 := A6.cell' 1 rfl
        have b0 := B6.cell' 0 rfl
        have b1 := B6.cell' 1 rfl
        have sz6 := I6.size
        have KFT := Lib.hid (fun W => rfit_any au aw (-aw + r7) (au) false (by unfold Lo at hlu; omega) (by unfold Lo at hlw; omega) (by unfold Lm at hbu; omega) (by unfold Lm at hbw; omega) W)
        refine wp_region_held_drew (S := fun W => (W.cell? ⟨w2.heap.size, 0, none⟩ = some (.int .i64 au) ∧ W.cell? ⟨w2.heap.size, 1, none⟩ = some (.int .i64 aw)) ∧ W.cell? ⟨w2.heap.size + 1, 0, none⟩ = some (.int .i64 ((-aw + r7))) ∧ W.cell? ⟨w2.heap.size + 1, 1, none⟩ = some (.int .i64 ((au)))) (by kernel_rfl) ⟨⟨a0, a1⟩, b0, b1⟩ fun hS0 => ?_
        refine take_first 0 (v := .agg #[.int .i64 au, .int .i64 aw]) rfl (by kernel_rfl) (by kernel_rfl) (by kernel_rfl) (fun _ _ _ h => h) rfl (fun W' hW' => by obtain ⟨⟨q0, q1⟩, q2, q3⟩ := hW'; go_simp) hS0 ?_
        refine take_first 1 (v := .agg #[.int .i64 ((-aw + r7)), .int .i64 ((au))]) rfl (by kernel_rfl) (by kernel_rfl) (by kernel_rfl) (fun _ _ _ h => h) rfl (fun W' hW' => by obtain ⟨⟨q0, q1⟩, q2, q3⟩ := hW'; go_simp) hS0 ?_
        refine take_first 2 (v := .bool false) rfl (by kernel_rfl) (by kernel_rfl) (by kernel_rfl) (fun _ _ _ h => h) rfl (fun W' hW' => by go_simp) hS0 ?_
        refine take_first 3 (v := .agg #[.int .i64 au, .int .i64 aw]) rfl (by kernel_rfl) (by kernel_rfl) (by kernel_rfl) (fun _ _ _ h => h) rfl (fun W' hW' => by obtain ⟨⟨q0, q1⟩, q2, q3⟩ := hW'; go_simp) hS0 ?_
        refine take_first 4 (v := .agg #[.int .i64 ((-aw + r7)), .int .i64 ((au))]) rfl (by kernel_rfl) (by kernel_rfl) (by kernel_rfl) (fun _ _ _ h => h) rfl (fun W' hW' => by obtain ⟨⟨q0, q1⟩, q2, q3⟩ := hW'; go_simp) hS0 ?_
        refine take_first 5 (v := .bool false) rfl (by kernel_rfl) (by kernel_rfl) (by kernel_rfl) (fun _ _ _ h => h) rfl (fun W' hW' => by go_simp) hS0 ?_
        refine one_next 6 (by kernel_rfl) rfl rfl fun K6 hK6 => ?_
        have HK6 := Lib.hid hK6
        clear hK6
        go_simp
        refine (KFT.out _).mono ?_
        rintro e w7 ⟨rfl, bl7⟩
        have I7 := Lib.hid (I6.drew.below bl7)
        have P7 := P6.drew.below bl7 P6.drew.lt
        have Q7 := Q6.drew.below bl7 Q6.drew.lt
        have A7 := Lib.hid (A6.drew.below bl7 A6.drew.lt)
        have B7 := Lib.hid (B6.drew.below bl7 B6.drew.lt)
        have sz7 := bl7.size
        clear I6 P6 Q6 A6 B6 KFT bl7
        refine HK6.out _ _ ⟨⟨A7.out.cell' 0 rfl, A7.out.cell' 1 rfl⟩, B7.out.cell' 0 rfl, B7.out.cell' 1 rfl⟩ ?_
        clear a0 a1 b0 b1 hS0
        have p0 := P7.cell' 0 rfl
        have p1 := P7.cell' 1 rfl
        have pf0 := P7.frozen 0
        have pf1 := P7.frozen 1
        refine one_next 7 (by kernel_rfl) rfl rfl fun K7 hK7 => ?_
        have HK7 := Lib.hid hK7
        clear hK7
        go_simp
        have P8 := Lib.hid ((P7.put 0 (.int .i64 au)).put 1 (.int .i64 aw))
        have Q8 := ((Q7.skip (p := ⟨w.heap.size, 0, none⟩) (by show w.heap.size + 1 ≠ w.heap.size; omega) (.int .i64 au)).skip (p := ⟨w.heap.size, 1, none⟩) (by show w.heap.size + 1 ≠ w.heap.size; omega) (.int .i64 aw))
        have A8 := Lib.hid ((A7.out.skip (p := ⟨w.heap.size, 0, none⟩) (by show w2.heap.size ≠ w.heap.size; omega) (.int .i64 au)).skip (p := ⟨w.heap.size, 1, none⟩) (by show w2.heap.size ≠ w.heap.size; omega) (.int .i64 aw))
        have B8 := Lib.hid ((B7.out.skip (p := ⟨w.heap.size, 0, none⟩) (by show w2.heap.size + 1 ≠ w.heap.size; omega) (.int .i64 au)).skip (p := ⟨w.heap.size, 1, none⟩) (by show w2.heap.size + 1 ≠ w.heap.size; omega) (.int .i64 aw))
        have I8 := Lib.hid ((I7.out.set (b := w.heap.size) (by omega) 0 (.int .i64 au)).set (b := w.heap.size) (by omega) 1 (.int .i64 aw))
        refine HK7.out _ _ ⟨⟨A8.out.cell' 0 rfl, A8.out.cell' 1 rfl⟩, B8.out.cell' 0 rfl, B8.out.cell' 1 rfl⟩ ?_
        clear p0 p1 pf0 pf1 P7 Q7 A7 B7 I7
        have p0 := Q8.cell' 0 rfl
        have p1 := Q8.cell' 1 rfl
        have pf0 := Q8.frozen 0
        have pf1 := Q8.frozen 1
        refine one_next 8 (by kernel_rfl) rfl rfl fun K8 hK8 => ?_
        have HK8 := Lib.hid hK8
        clear hK8
        go_simp
        have Q9 := Lib.hid ((Q8.put 0 (.int .i64 ((-aw + r7)))).put 1 (.int .i64 ((au))))
        have P9 := Lib.hid ((P8.out.skip (p := ⟨w.heap.size + 1, 0, none⟩) (by show w.heap.size ≠ w.heap.size + 1; omega) (.int .i64 ((-aw + r7)))).skip (p := ⟨w.heap.size + 1, 1, none⟩) (by show w.heap.size ≠ w.heap.size + 1; omega) (.int .i64 ((au))))
        have A9 := Lib.hid ((A8.out.skip (p := ⟨w.heap.size + 1, 0, none⟩) (by show w2.heap.size ≠ w.heap.size + 1; omega) (.int .i64 ((-aw + r7)))).skip (p := ⟨w.heap.size + 1, 1, none⟩) (by show w2.heap.size ≠ w.heap.size + 1; omega) (.int .i64 ((au))))
        have B9 := Lib.hid ((B8.out.skip (p := ⟨w.heap.size + 1, 0, none⟩) (by show w2.heap.size + 1 ≠ w.heap.size + 1; omega) (.int .i64 ((-aw + r7)))).skip (p := ⟨w.heap.size + 1, 1, none⟩) (by show w2.heap.size + 1 ≠ w.heap.size + 1; omega) (.int .i64 ((au))))
        have I9 := Lib.hid ((I8.out.set (b := w.heap.size + 1) (by omega) 0 (.int .i64 ((-aw + r7)))).set (b := w.heap.size + 1) (by omega) 1 (.int .i64 ((au))))
        refine HK8.out _ _ ⟨⟨A9.out.cell' 0 rfl, A9.out.cell' 1 rfl⟩, B9.out.cell' 0 rfl, B9.out.cell' 1 rfl⟩ ?_
        clear p0 p1 pf0 pf1 P8 Q8 A8 B8 I8
        refine one_next 9 (by kernel_rfl) rfl rfl fun K9 hK9 => ?_
        have HK9 := Lib.hid hK9
        clear hK9
        go_simp
        refine HK9.out _ _ ⟨⟨A9.out.cell' 0 rfl, A9.out.cell' 1 rfl⟩, B9.out.cell' 0 rfl, B9.out.cell' 1 rfl⟩ ?_
        refine one_next 10 (by kernel_rfl) rfl rfl fun K10 hK10 => ?_
        have HK10 := Lib.hid hK10
        clear hK10
        go_simp
        refine HK10.out _ _ ⟨⟨A9.out.cell' 0 rfl, A9.out.cell' 1 rfl⟩, B9.out.cell' 0 rfl, B9.out.cell' 1 rfl⟩ ?_
        refine wpAnyH_done (by kernel_rfl) ?_ _
        clear HK6 HK7 HK8 HK9 HK10 A9 B9
        go_simp
        go_wp2_with fail
        refine bodyPost_ret (results_cctt rfl rfl (show Blk _ w.heap.size 88 #[.int .i64 au, .int .i64 aw] from P9.out) Tryz.underlying88 rfl (by kernel_rfl) rfl (show Blk _ (w.heap.size + 1) 88 #[.int .i64 ((-aw + r7)), .int .i64 ((au))] from Q9.out) Tryz.underlying88 rfl (by kernel_rfl)) rfl ?_
        exact ⟨au, aw, (-aw + r7), (au), false, _, hlu.lm, hlw.lm, hbu, hbw, rfl, I9.out⟩
      · have k6 : (r6 == 0) = false := by simpa using hr6
        go_wp2_with fail
        have a0 := A6.cell' 0 rfl
        have a1 := A6.cell' 1 rfl
        have b0 := B6.cell' 0 rfl
        have b1 := B6.cell' 1 rfl
        have sz6 := I6.size
        have KFT := Lib.hid (fun W => rfit_any au aw (-aw) (au) false (by unfold Lo at hlu; omega) (by unfold Lo at hlw; omega) (by unfold Lm at hbu; omega) (by unfold Lm at hbw; omega) W)
        refine wp_region_held_drew (S := fun W => (W.cell? ⟨w2.heap.size, 0, none⟩ = some (.int .i64 au) ∧ W.cell? ⟨w2.heap.size, 1, none⟩ = some (.int .i64 aw)) ∧ W.cell? ⟨w2.heap.size + 1, 0, none⟩ = some (.int .i64 ((-aw))) ∧ W.cell? ⟨w2.heap.size + 1, 1, none⟩ = some (.int .i64 ((au)))) (by kernel_rfl) ⟨⟨a0, a1⟩, b0, b1⟩ fun hS0 => ?_
        refine take_first 0 (v := .agg #[.int .i64 au, .int .i64 aw]) rfl (by kernel_rfl) (by kernel_rfl) (by kernel_rfl) (fun _ _ _ h => h) rfl (fun W' hW' => by obtain ⟨⟨q0, q1⟩, q2, q3⟩ := hW'; go_simp) hS0 ?_
        refine take_first 1 (v := .agg #[.int .i64 ((-aw)), .int .i64 ((au))]) rfl (by kernel_rfl) (by kernel_rfl) (by kernel_rfl) (fun _ _ _ h => h) rfl (fun W' hW' => by obtain ⟨⟨q0, q1⟩, q2, q3⟩ := hW'; go_simp) hS0 ?_
        refine take_first 2 (v := .bool false) rfl (by kernel_rfl) (by kernel_rfl) (by kernel_rfl) (fun _ _ _ h => h) rfl (fun W' hW' => by go_simp) hS0 ?_
        refine take_first 3 (v := .agg #[.int .i64 au, .int .i64 aw]) rfl (by kernel_rfl) (by kernel_rfl) (by kernel_rfl) (fun _ _ _ h => h) rfl (fun W' hW' => by obtain ⟨⟨q0, q1⟩, q2, q3⟩ := hW'; go_simp) hS0 ?_
        refine take_first 4 (v := .agg #[.int .i64 ((-aw)), .int .i64 ((au))]) rfl (by kernel_rfl) (by kernel_rfl) (by kernel_rfl) (fun _ _ _ h => h) rfl (fun W' hW' => by obtain ⟨⟨q0, q1⟩, q2, q3⟩ := hW'; go_simp) hS0 ?_
        refine take_first 5 (v := .bool false) rfl (by kernel_rfl) (by kernel_rfl) (by kernel_rfl) (fun _ _ _ h => h) rfl (fun W' hW' => by go_simp) hS0 ?_
        refine one_next 6 (by kernel_rfl) rfl rfl fun K6 hK6 => ?_
        have HK6 := Lib.hid hK6
        clear hK6
        go_simp
        refine (KFT.out _).mono ?_
        rintro e w7 ⟨rfl, bl7⟩
        have I7 := Lib.hid (I6.drew.below bl7)
        have P7 := P6.drew.below bl7 P6.drew.lt
        have Q7 := Q6.drew.below bl7 Q6.drew.lt
        have A7 := Lib.hid (A6.drew.below bl7 A6.drew.lt)
        have B7 := Lib.hid (B6.drew.below bl7 B6.drew.lt)
        have sz7 := bl7.size
        clear I6 P6 Q6 A6 B6 KFT bl7
        refine HK6.out _ _ ⟨⟨A7.out.cell' 0 rfl, A7.out.cell' 1 rfl⟩, B7.out.cell' 0 rfl, B7.out.cell' 1 rfl⟩ ?_
        clear a0 a1 b0 b1 hS0
        have p0 := P7.cell' 0 rfl
        have p1 := P7.cell' 1 rfl
        have pf0 := P7.frozen 0
        have pf1 := P7.frozen 1
        refine one_next 7 (by kernel_rfl) rfl rfl fun K7 hK7 => ?_
        have HK7 := Lib.hid hK7
        clear hK7
        go_simp
        have P8 := Lib.hid ((P7.put 0 (.int .i64 au)).put 1 (.int .i64 aw))
        have Q8 := ((Q7.skip (p := ⟨w.heap.size, 0, none⟩) (by show w.heap.size + 1 ≠ w.heap.size; omega) (.int .i64 au)).skip (p := ⟨w.heap.size, 1, none⟩) (by show w.heap.size + 1 ≠ w.heap.size; omega) (.int .i64 aw))
        have A8 := Lib.hid ((A7.out.skip (p := ⟨w.heap.size, 0, none⟩) (by show w2.heap.size ≠ w.heap.size; omega) (.int .i64 au)).skip (p := ⟨w.heap.size, 1, none⟩) (by show w2.heap.size ≠ w.heap.size; omega) (.int .i64 aw))
        have B8 := Lib.hid ((B7.out.skip (p := ⟨w.heap.size, 0, none⟩) (by show w2.heap.size + 1 ≠ w.heap.size; omega) (.int .i64 au)).skip (p := ⟨w.heap.size, 1, none⟩) (by show w2.heap.size + 1 ≠ w.heap.size; omega) (.int .i64 aw))
        have I8 := Lib.hid ((I7.out.set (b := w.heap.size) (by omega) 0 (.int .i64 au)).set (b := w.heap.size) (by omega) 1 (.int .i64 aw))
        refine HK7.out _ _ ⟨⟨A8.out.cell' 0 rfl, A8.out.cell' 1 rfl⟩, B8.out.cell' 0 rfl, B8.out.cell' 1 rfl⟩ ?_
        clear p0 p1 pf0 pf1 P7 Q7 A7 B7 I7
        have p0 := Q8.cell' 0 rfl
        have p1 := Q8.cell' 1 rfl
        have pf0 := Q8.frozen 0
        have pf1 := Q8.frozen 1
        refine one_next 8 (by kernel_rfl) rfl rfl fun K8 hK8 => ?_
        have HK8 := Lib.hid hK8
        clear hK8
        go_simp
        have Q9 := Lib.hid ((Q8.put 0 (.int .i64 ((-aw)))).put 1 (.int .i64 ((au))))
        have P9 := Lib.hid ((P8.out.skip (p := ⟨w.heap.size + 1, 0, none⟩) (by show w.heap.size ≠ w.heap.size + 1; omega) (.int .i64 ((-aw)))).skip (p := ⟨w.heap.size + 1, 1, none⟩) (by show w.heap.size ≠ w.heap.size + 1; omega) (.int .i64 ((au))))
        have A9 := Lib.hid ((A8.out.skip (p := ⟨w.heap.size + 1, 0, none⟩) (by show w2.heap.size ≠ w.heap.size + 1; omega) (.int .i64 ((-aw)))).skip (p := ⟨w.heap.size + 1, 1, none⟩) (by show w2.heap.size ≠ w.heap.size + 1; omega) (.int .i64 ((au))))
        have B9 := Lib.hid ((B8.out.skip (p := ⟨w.heap.size + 1, 0, none⟩) (by show w2.heap.size + 1 ≠ w.heap.size + 1; omega) (.int .i64 ((-aw)))).skip (p := ⟨w.heap.size + 1, 1, none⟩) (by show w2.heap.size + 1 ≠ w.heap.size + 1; omega) (.int .i64 ((au))))
        have I9 := Lib.hid ((I8.out.set (b := w.heap.size + 1) (by omega) 0 (.int .i64 ((-aw)))).set (b := w.heap.size + 1) (by omega) 1 (.int .i64 ((au))))
        refine HK8.out _ _ ⟨⟨A9.out.cell' 0 rfl, A9.out.cell' 1 rfl⟩, B9.out.cell' 0 rfl, B9.out.cell' 1 rfl⟩ ?_
        clear p0 p1 pf0 pf1 P8 Q8 A8 B8 I8
        refine one_next 9 (by kernel_rfl) rfl rfl fun K9 hK9 => ?_
        have HK9 := Lib.hid hK9
        clear hK9
        go_simp
        refine HK9.out _ _ ⟨⟨A9.out.cell' 0 rfl, A9.out.cell' 1 rfl⟩, B9.out.cell' 0 rfl, B9.out.cell' 1 rfl⟩ ?_
        refine one_next 10 (by kernel_rfl) rfl rfl fun K10 hK10 => ?_
        have HK10 := Lib.hid hK10
        clear hK10
        go_simp
        refine HK10.out _ _ ⟨⟨A9.out.cell' 0 rfl, A9.out.cell' 1 rfl⟩, B9.out.cell' 0 rfl, B9.out.cell' 1 rfl⟩ ?_
        refine wpAnyH_done (by kernel_rfl) ?_ _
        clear HK6 HK7 HK8 HK9 HK10 A9 B9
        go_simp
        go_wp2_with fail
        refine bodyPost_ret (results_cctt rfl rfl (show Blk _ w.heap.size 88 #[.int .i64 au, .int .i64 aw] from P9.out) Tryz.underlying88 rfl (by kernel_rfl) rfl (show Blk _ (w.heap.size + 1) 88 #[.int .i64 ((-aw)), .int .i64 ((au))] from Q9.out) Tryz.underlying88 rfl (by kernel_rfl)) rfl ?_
        exact ⟨au, aw, (-aw), (au), false, _, hlu.lm, hlw.lm, hbu, hbw, rfl, I9.out⟩
    · skip
      go_wp2_with fail
      refine calls_told (fun W => GI B g a n c z w W ∧ Blk W w.heap.size 88 #[.int .i64 0, .int .i64 0] ∧ Blk W (w.heap.size + 1) 88 #[.int .i64 0, .int .i64 0] ∧ Blk W w2.heap.size 88 #[.int .i64 au, .int .i64 aw] ∧ Blk W (w2.heap.size + 1) 88 #[.int .i64 (-au), .int .i64 (-aw)])
        ⟨((I5.out.set (by omega) _ _).set (by omega) _ _), ((P5.out.skip (by show w.heap.size ≠ w2.heap.size + 1; omega) _).skip (by show w.heap.size ≠ w2.heap.size + 1; omega) _), ((Q5.out.skip (by show w.heap.size + 1 ≠ w2.heap.size + 1; omega) _).skip (by show w.heap.size + 1 ≠ w2.heap.size + 1; omega) _), ((A5.out.skip (by show w2.heap.size ≠ w2.heap.size + 1; omega) _).skip (by show w2.heap.size ≠ w2.heap.size + 1; omega) _), ((B5.out.put 0 _).put 1 _)⟩ ?_
      rintro W ⟨I5', P5', Q5', A5', B5'⟩
      refine (next_any W B g a n c z 3 I5'.src (by omega) (by omega)).mono ?_
      rintro e w6 ⟨r6, k6, h60, h61, rfl, s6, g6⟩
      have I6 := I5'.next s6 g6
      have P6 := P5'.grown g6 (by intro e; injection e; omega)
      have Q6 := Q5'.grown g6 (by intro e; injection e; omega)
      have A6 := A5'.grown g6 (by intro e; injection e; omega)
      have B6 := B5'.grown g6 (by intro e; injection e; omega)
      have sz6' := g6.size
      have hbu : Lm (-au) := by unfold Lm; unfold Lo at hlu hlw; omega
      have hbw : Lm (-aw) := by unfold Lm; unfold Lo at hlu hlw; omega
      clear a0 a1 b0 b1 f0 f1 I5 P5 Q5 A5 B5 I5' P5' Q5' A5' B5' s6 g6 n1 n2
      by_cases hr6 : r6 = 0
      · subst hr6
        have I6h := Lib.hid I6
        have P6h := Lib.hid P6
        have Q6h := Lib.hid Q6
        have A6h := Lib.hid A6
        have B6h := Lib.hid B6
        clear I6 P6 Q6 A6 B6
        go_wp2_with fail
        refine region_L (fun W => W.cell? ⟨w2.heap.size + 1, 0, none⟩ = some (.int .i64 (-au))) [6] (by kernel_rfl) ?_
        have hS0 : w6.drew.cell? ⟨w2.heap.size + 1, 0, none⟩ = some (.int .i64 (-au)) := B6h.out.drew.cell' 0 rfl
        refine take_P 0 (v := .pointer (some ⟨w2.heap.size + 1, 0, none⟩)) rfl (by kernel_rfl) (by kernel_rfl) (by kernel_rfl) (fun _ _ _ h => h) rfl (fun W' => by go_simp) ?_
        refine take_L 1 (v := .int .i64 (-au)) rfl (by kernel_rfl) (by kernel_rfl) (by kernel_rfl) (by kernel_rfl) (fun _ _ _ h => h) rfl (fun W' hW' => by go_simp) hS0 ?_
        refine take_P 2 (v := .pointer (some ⟨g, 0, none⟩)) rfl (by kernel_rfl) (by kernel_rfl) (by kernel_rfl) (fun _ _ _ h => h) rfl (fun W' => by go_simp) ?_
        refine one_L 3 (by kernel_rfl) rfl rfl fun K3 hK3 => ?_
        have HK3 := Lib.hid hK3
        clear hK3
        go_simp
        refine (range_any w6.drew B g a n c z (-2) 2 I6h.out.drew.src (by omega) (by omega) (by omega)).mono ?_
        rintro e w7 ⟨r7, k7, h70, h71, rfl, s7, g7⟩
        have I7 := Lib.hid (I6h.out.drew.next s7 g7)
        have P7 := Lib.hid (P6h.out.drew.grown g7 (by intro e; injection e; omega))
        have Q7 := Lib.hid (Q6h.out.drew.grown g7 (by intro e; injection e; omega))
        have A7 := Lib.hid (A6h.out.drew.grown g7 (by intro e; injection e; omega))
        have B7 := Lib.hid (B6h.out.drew.grown g7 (by intro e; injection e; omega))
        have sz7' : w6.heap.size ≤ w7.heap.size := g7.size
        have hq : IntKind.i64.wrap (-au + r7) = -au + r7 := by rw [IntKind.wrap_i64]; unfold Lo at hlu hlw; omega
        refine HK3.out _ _ (fun _ _ => B7.out.cell' 0 rfl) ?_
        clear hS0
        refine take_P 4 (v := .int .i64 (-au + r7)) rfl (by kernel_rfl) (by kernel_rfl) (by kernel_rfl) (fun _ _ _ h => h) rfl (fun W' => by go_simp) ?_
        refine take_P 5 (v := .pointer (some ⟨w2.heap.size + 1, 0, none⟩)) rfl (by kernel_rfl) (by kernel_rfl) (by kernel_rfl) (fun _ _ _ h => h) rfl (fun W' => by go_simp) ?_
        have qf := B7.out.frozen 0
        have qc := B7.out.cell' 0 rfl
        refine one_L 6 (by kernel_rfl) rfl rfl fun K6 hK6 => ?_
        have HK6 := Lib.hid hK6
        clear hK6
        go_simp
        refine HK6.out _ _ (fun h => absurd h (by decide)) ?_
        refine done_L (by kernel_rfl) ?_ _
        have I6 := I7.out.set (b := w2.heap.size + 1) (by omega) 0 (.int .i64 (-au + r7))
        have P6 := P7.out.skip (p := ⟨w2.heap.size + 1, 0, none⟩) (by show w.heap.size ≠ w2.heap.size + 1; omega) (.int .i64 (-au + r7))
        have Q6 := Q7.out.skip (p := ⟨w2.heap.size + 1, 0, none⟩) (by show w.heap.size + 1 ≠ w2.heap.size + 1; omega) (.int .i64 (-au + r7))
        have A6 := A7.out.skip (p := ⟨w2.heap.size + 1, 0, none⟩) (by show w2.heap.size ≠ w2.heap.size + 1; omega) (.int .i64 (-au + r7))
        have B6 := B7.out.put 0 (.int .i64 (-au + r7))
        have hbu : Lm (-au + r7) := by unfold Lo at hlu hlw; unfold Lm; omega
        clear qf qc hq s7 g7 HK3 HK6 I7 P7 Q7 A7 B7 I6h P6h Q6h A6h B6h
        refine on_told (fun W => GI B g a n c z w W ∧ Blk W w.heap.size 88 #[.int .i64 0, .int .i64 0] ∧ Blk W (w.heap.size + 1) 88 #[.int .i64 0, .int .i64 0] ∧ Blk W w2.heap.size 88 #[.int .i64 au, .int .i64 aw] ∧ Blk W (w2.heap.size + 1) 88 #[.int .i64 (-au + r7), .int .i64 (-aw)]) ⟨I6, P6, Q6, A6, B6⟩ ?_
        clear I6 P6 Q6 A6 B6
        rintro W6 ⟨I6, P6, Q6, A6, B6⟩
        go_simp
        go_wp2_with fail
        have a0 := A6.cell' 0 rfl
        have a1 := A6.cell' 1 rfl
        have b0 := B6.cell' 0 rfl
        have b1 := B6.cell' 1 rfl
        have sz6 := I6.size
        have KFT := Lib.hid (fun W => rfit_any au aw (-au + r7) (-aw) false (by unfold Lo at hlu; omega) (by unfold Lo at hlw; omega) (by unfold Lm at hbu; omega) (by unfold Lm at hbw; omega) W)
        refine wp_region_held_drew (S := fun W => (W.cell? ⟨w2.heap.size, 0, none⟩ = some (.int .i64 au) ∧ W.cell? ⟨w2.heap.size, 1, none⟩ = some (.int .i64 aw)) ∧ W.cell? ⟨w2.heap.size + 1, 0, none⟩ = some (.int .i64 ((-au + r7))) ∧ W.cell? ⟨w2.heap.size + 1, 1, none⟩ = some (.int .i64 ((-aw)))) (by kernel_rfl) ⟨⟨a0, a1⟩, b0, b1⟩ fun hS0 => ?_
        refine take_first 0 (v := .agg #[.int .i64 au, .int .i64 aw]) rfl (by kernel_rfl) (by kernel_rfl) (by kernel_rfl) (fun _ _ _ h => h) rfl (fun W' hW' => by obtain ⟨⟨q0, q1⟩, q2, q3⟩ := hW'; go_simp) hS0 ?_
        refine take_first 1 (v := .agg #[.int .i64 ((-au + r7)), .int .i64 ((-aw))]) rfl (by kernel_rfl) (by kernel_rfl) (by kernel_rfl) (fun _ _ _ h => h) rfl (fun W' hW' => by obtain ⟨⟨q0, q1⟩, q2, q3⟩ := hW'; go_simp) hS0 ?_
        refine take_first 2 (v := .bool false) rfl (by kernel_rfl) (by kernel_rfl) (by kernel_rfl) (fun _ _ _ h => h) rfl (fun W' hW' => by go_simp) hS0 ?_
        refine take_first 3 (v := .agg #[.int .i64 au, .int .i64 aw]) rfl (by kernel_rfl) (by kernel_rfl) (by kernel_rfl) (fun _ _ _ h => h) rfl (fun W' hW' => by obtain ⟨⟨q0, q1⟩, q2, q3⟩ := hW'; go_simp) hS0 ?_
        refine take_first 4 (v := .agg #[.int .i64 ((-au + r7)), .int .i64 ((-aw))]) rfl (by kernel_rfl) (by kernel_rfl) (by kernel_rfl) (fun _ _ _ h => h) rfl (fun W' hW' => by obtain ⟨⟨q0, q1⟩, q2, q3⟩ := hW'; go_simp) hS0 ?_
        refine take_first 5 (v := .bool false) rfl (by kernel_rfl) (by kernel_rfl) (by kernel_rfl) (fun _ _ _ h => h) rfl (fun W' hW' => by go_simp) hS0 ?_
        refine one_next 6 (by kernel_rfl) rfl rfl fun K6 hK6 => ?_
        have HK6 := Lib.hid hK6
        clear hK6
        go_simp
        refine (KFT.out _).mono ?_
        rintro e w7 ⟨rfl, bl7⟩
        have I7 := Lib.hid (I6.drew.below bl7)
        have P7 := P6.drew.below bl7 P6.drew.lt
        have Q7 := Q6.drew.below bl7 Q6.drew.lt
        have A7 := Lib.hid (A6.drew.below bl7 A6.drew.lt)
        have B7 := Lib.hid (B6.drew.below bl7 B6.drew.lt)
        have sz7 := bl7.size
        clear I6 P6 Q6 A6 B6 KFT bl7
        refine HK6.out _ _ ⟨⟨A7.out.cell' 0 rfl, A7.out.cell' 1 rfl⟩, B7.out.cell' 0 rfl, B7.out.cell' 1 rfl⟩ ?_
        clear a0 a1 b0 b1 hS0
        have p0 := P7.cell' 0 rfl
        have p1 := P7.cell' 1 rfl
        have pf0 := P7.frozen 0
        have pf1 := P7.frozen 1
        refine one_next 7 (by kernel_rfl) rfl rfl fun K7 hK7 => ?_
        have HK7 := Lib.hid hK7
        clear hK7
        go_simp
        have P8 := Lib.hid ((P7.put 0 (.int .i64 au)).put 1 (.int .i64 aw))
        have Q8 := ((Q7.skip (p := ⟨w.heap.size, 0, none⟩) (by show w.heap.size + 1 ≠ w.heap.size; omega) (.int .i64 au)).skip (p := ⟨w.heap.size, 1, none⟩) (by show w.heap.size + 1 ≠ w.heap.size; omega) (.int .i64 aw))
        have A8 := Lib.hid ((A7.out.skip (p := ⟨w.heap.size, 0, none⟩) (by show w2.heap.size ≠ w.heap.size; omega) (.int .i64 au)).skip (p := ⟨w.heap.size, 1, none⟩) (by show w2.heap.size ≠ w.heap.size; omega) (.int .i64 aw))
        have B8 := Lib.hid ((B7.out.skip (p := ⟨w.heap.size, 0, none⟩) (by show w2.heap.size + 1 ≠ w.heap.size; omega) (.int .i64 au)).skip (p := ⟨w.heap.size, 1, none⟩) (by show w2.heap.size + 1 ≠ w.heap.size; omega) (.int .i64 aw))
        have I8 := Lib.hid ((I7.out.set (b := w.heap.size) (by omega) 0 (.int .i64 au)).set (b := w.heap.size) (by omega) 1 (.int .i64 aw))
        refine HK7.out _ _ ⟨⟨A8.out.cell' 0 rfl, A8.out.cell' 1 rfl⟩, B8.out.cell' 0 rfl, B8.out.cell' 1 rfl⟩ ?_
        clear p0 p1 pf0 pf1 P7 Q7 A7 B7 I7
        have p0 := Q8.cell' 0 rfl
        have p1 := Q8.cell' 1 rfl
        have pf0 := Q8.frozen 0
        have pf1 := Q8.frozen 1
        refine one_next 8 (by kernel_rfl) rfl rfl fun K8 hK8 => ?_
        have HK8 := Lib.hid hK8
        clear hK8
        go_simp
        have Q9 := Lib.hid ((Q8.put 0 (.int .i64 ((-au + r7)))).put 1 (.int .i64 ((-aw))))
        have P9 := Lib.hid ((P8.out.skip (p := ⟨w.heap.size + 1, 0, none⟩) (by show w.heap.size ≠ w.heap.size + 1; omega) (.int .i64 ((-au + r7)))).skip (p := ⟨w.heap.size + 1, 1, none⟩) (by show w.heap.size ≠ w.heap.size + 1; omega) (.int .i64 ((-aw))))
        have A9 := Lib.hid ((A8.out.skip (p := ⟨w.heap.size + 1, 0, none⟩) (by show w2.heap.size ≠ w.heap.size + 1; omega) (.int .i64 ((-au + r7)))).skip (p := ⟨w.heap.size + 1, 1, none⟩) (by show w2.heap.size ≠ w.heap.size + 1; omega) (.int .i64 ((-aw))))
        have B9 := Lib.hid ((B8.out.skip (p := ⟨w.heap.size + 1, 0, none⟩) (by show w2.heap.size + 1 ≠ w.heap.size + 1; omega) (.int .i64 ((-au + r7)))).skip (p := ⟨w.heap.size + 1, 1, none⟩) (by show w2.heap.size + 1 ≠ w.heap.size + 1; omega) (.int .i64 ((-aw))))
        have I9 := Lib.hid ((I8.out.set (b := w.heap.size + 1) (by omega) 0 (.int .i64 ((-au + r7)))).set (b := w.heap.size + 1) (by omega) 1 (.int .i64 ((-aw))))
        refine HK8.out _ _ ⟨⟨A9.out.cell' 0 rfl, A9.out.cell' 1 rfl⟩, B9.out.cell' 0 rfl, B9.out.cell' 1 rfl⟩ ?_
        clear p0 p1 pf0 pf1 P8 Q8 A8 B8 I8
        refine one_next 9 (by kernel_rfl) rfl rfl fun K9 hK9 => ?_
        have HK9 := Lib.hid hK9
        clear hK9
        go_simp
        refine HK9.out _ _ ⟨⟨A9.out.cell' 0 rfl, A9.out.cell' 1 rfl⟩, B9.out.cell' 0 rfl, B9.out.cell' 1 rfl⟩ ?_
        refine one_next 10 (by kernel_rfl) rfl rfl fun K10 hK10 => ?_
        have HK10 := Lib.hid hK10
        clear hK10
        go_simp
        refine HK10.out _ _ ⟨⟨A9.out.cell' 0 rfl, A9.out.cell' 1 rfl⟩, B9.out.cell' 0 rfl, B9.out.cell' 1 rfl⟩ ?_
        refine wpAnyH_done (by kernel_rfl) ?_ _
        clear HK6 HK7 HK8 HK9 HK10 A9 B9
        go_simp
        go_wp2_with fail
        refine bodyPost_ret (results_cctt rfl rfl (show Blk _ w.heap.size 88 #[.int .i64 au, .int .i64 aw] from P9.out) Tryz.underlying88 rfl (by kernel_rfl) rfl (show Blk _ (w.heap.size + 1) 88 #[.int .i64 ((-au + r7)), .int .i64 ((-aw))] from Q9.out) Tryz.underlying88 rfl (by kernel_rfl)) rfl ?_
        exact ⟨au, aw, (-au + r7), (-aw), false, _, hlu.lm, hlw.lm, hbu, hbw, rfl, I9.out⟩
      · have k6 : (r6 == 0) = false := by simpa using hr6
        go_wp2_with fail
        have a0 := A6.cell' 0 rfl
        have a1 := A6.cell' 1 rfl
        have b0 := B6.cell' 0 rfl
        have b1 := B6.cell' 1 rfl
        have sz6 := I6.size
        have KFT := Lib.hid (fun W => rfit_any au aw (-au) (-aw) false (by unfold Lo at hlu; omega) (by unfold Lo at hlw; omega) (by unfold Lm at hbu; omega) (by unfold Lm at hbw; omega) W)
        refine wp_region_held_drew (S := fun W => (W.cell? ⟨w2.heap.size, 0, none⟩ = some (.int .i64 au) ∧ W.cell? ⟨w2.heap.size, 1, none⟩ = some (.int .i64 aw)) ∧ W.cell? ⟨w2.heap.size + 1, 0, none⟩ = some (.int .i64 ((-au))) ∧ W.cell? ⟨w2.heap.size + 1, 1, none⟩ = some (.int .i64 ((-aw)))) (by kernel_rfl) ⟨⟨a0, a1⟩, b0, b1⟩ fun hS0 => ?_
        refine take_first 0 (v := .agg #[.int .i64 au, .int .i64 aw]) rfl (by kernel_rfl) (by kernel_rfl) (by kernel_rfl) (fun _ _ _ h => h) rfl (fun W' hW' => by obtain ⟨⟨q0, q1⟩, q2, q3⟩ := hW'; go_simp) hS0 ?_
        refine take_first 1 (v := .agg #[.int .i64 ((-au)), .int .i64 ((-aw))]) rfl (by kernel_rfl) (by kernel_rfl) (by kernel_rfl) (fun _ _ _ h => h) rfl (fun W' hW' => by obtain ⟨⟨q0, q1⟩, q2, q3⟩ := hW'; go_simp) hS0 ?_
        refine take_first 2 (v := .bool false) rfl (by kernel_rfl) (by kernel_rfl) (by kernel_rfl) (fun _ _ _ h => h) rfl (fun W' hW' => by go_simp) hS0 ?_
        refine take_first 3 (v := .agg #[.int .i64 au, .int .i64 aw]) rfl (by kernel_rfl) (by kernel_rfl) (by kernel_rfl) (fun _ _ _ h => h) rfl (fun W' hW' => by obtain ⟨⟨q0, q1⟩, q2, q3⟩ := hW'; go_simp) hS0 ?_
        refine take_first 4 (v := .agg #[.int .i64 ((-au)), .int .i64 ((-aw))]) rfl (by kernel_rfl) (by kernel_rfl) (by kernel_rfl) (fun _ _ _ h => h) rfl (fun W' hW' => by obtain ⟨⟨q0, q1⟩, q2, q3⟩ := hW'; go_simp) hS0 ?_
        refine take_first 5 (v := .bool false) rfl (by kernel_rfl) (by kernel_rfl) (by kernel_rfl) (fun _ _ _ h => h) rfl (fun W' hW' => by go_simp) hS0 ?_
        refine one_next 6 (by kernel_rfl) rfl rfl fun K6 hK6 => ?_
        have HK6 := Lib.hid hK6
        clear hK6
        go_simp
        refine (KFT.out _).mono ?_
        rintro e w7 ⟨rfl, bl7⟩
        have I7 := Lib.hid (I6.drew.below bl7)
        have P7 := P6.drew.below bl7 P6.drew.lt
        have Q7 := Q6.drew.below bl7 Q6.drew.lt
        have A7 := Lib.hid (A6.drew.below bl7 A6.drew.lt)
        have B7 := Lib.hid (B6.drew.below bl7 B6.drew.lt)
        have sz7 := bl7.size
        clear I6 P6 Q6 A6 B6 KFT bl7
        refine HK6.out _ _ ⟨⟨A7.out.cell' 0 rfl, A7.out.cell' 1 rfl⟩, B7.out.cell' 0 rfl, B7.out.cell' 1 rfl⟩ ?_
        clear a0 a1 b0 b1 hS0
        have p0 := P7.cell' 0 rfl
        have p1 := P7.cell' 1 rfl
        have pf0 := P7.frozen 0
        have pf1 := P7.frozen 1
        refine one_next 7 (by kernel_rfl) rfl rfl fun K7 hK7 => ?_
        have HK7 := Lib.hid hK7
        clear hK7
        go_simp
        have P8 := Lib.hid ((P7.put 0 (.int .i64 au)).put 1 (.int .i64 aw))
        have Q8 := ((Q7.skip (p := ⟨w.heap.size, 0, none⟩) (by show w.heap.size + 1 ≠ w.heap.size; omega) (.int .i64 au)).skip (p := ⟨w.heap.size, 1, none⟩) (by show w.heap.size + 1 ≠ w.heap.size; omega) (.int .i64 aw))
        have A8 := Lib.hid ((A7.out.skip (p := ⟨w.heap.size, 0, none⟩) (by show w2.heap.size ≠ w.heap.size; omega) (.int .i64 au)).skip (p := ⟨w.heap.size, 1, none⟩) (by show w2.heap.size ≠ w.heap.size; omega) (.int .i64 aw))
        have B8 := Lib.hid ((B7.out.skip (p := ⟨w.heap.size, 0, none⟩) (by show w2.heap.size + 1 ≠ w.heap.size; omega) (.int .i64 au)).skip (p := ⟨w.heap.size, 1, none⟩) (by show w2.heap.size + 1 ≠ w.heap.size; omega) (.int .i64 aw))
        have I8 := Lib.hid ((I7.out.set (b := w.heap.size) (by omega) 0 (.int .i64 au)).set (b := w.heap.size) (by omega) 1 (.int .i64 aw))
        refine HK7.out _ _ ⟨⟨A8.out.cell' 0 rfl, A8.out.cell' 1 rfl⟩, B8.out.cell' 0 rfl, B8.out.cell' 1 rfl⟩ ?_
        clear p0 p1 pf0 pf1 P7 Q7 A7 B7 I7
        have p0 := Q8.cell' 0 rfl
        have p1 := Q8.cell' 1 rfl
        have pf0 := Q8.frozen 0
        have pf1 := Q8.frozen 1
        refine one_next 8 (by kernel_rfl) rfl rfl fun K8 hK8 => ?_
        have HK8 := Lib.hid hK8
        clear hK8
        go_simp
        have Q9 := Lib.hid ((Q8.put 0 (.int .i64 ((-au)))).put 1 (.int .i64 ((-aw))))
        have P9 := Lib.hid ((P8.out.skip (p := ⟨w.heap.size + 1, 0, none⟩) (by show w.heap.size ≠ w.heap.size + 1; omega) (.int .i64 ((-au)))).skip (p := ⟨w.heap.size + 1, 1, none⟩) (by show w.heap.size ≠ w.heap.size + 1; omega) (.int .i64 ((-aw))))
        have A9 := Lib.hid ((A8.out.skip (p := ⟨w.heap.size + 1, 0, none⟩) (by show w2.heap.size ≠ w.heap.size + 1; omega) (.int .i64 ((-au)))).skip (p := ⟨w.heap.size + 1, 1, none⟩) (by show w2.heap.size ≠ w.heap.size + 1; omega) (.int .i64 ((-aw))))
        have B9 := Lib.hid ((B8.out.skip (p := ⟨w.heap.size + 1, 0, none⟩) (by show w2.heap.size + 1 ≠ w.heap.size + 1; omega) (.int .i64 ((-au)))).skip (p := ⟨w.heap.size + 1, 1, none⟩) (by show w2.heap.size + 1 ≠ w.heap.size + 1; omega) (.int .i64 ((-aw))))
        have I9 := Lib.hid ((I8.out.set (b := w.heap.size + 1) (by omega) 0 (.int .i64 ((-au)))).set (b := w.heap.size + 1) (by omega) 1 (.int .i64 ((-aw))))
        refine HK8.out _ _ ⟨⟨A9.out.cell' 0 rfl, A9.out.cell' 1 rfl⟩, B9.out.cell' 0 rfl, B9.out.cell' 1 rfl⟩ ?_
        clear p0 p1 pf0 pf1 P8 Q8 A8 B8 I8
        refine one_next 9 (by kernel_rfl) rfl rfl fun K9 hK9 => ?_
        have HK9 := Lib.hid hK9
        clear hK9
        go_simp
        refine HK9.out _ _ ⟨⟨A9.out.cell' 0 rfl, A9.out.cell' 1 rfl⟩, B9.out.cell' 0 rfl, B9.out.cell' 1 rfl⟩ ?_
        refine one_next 10 (by kernel_rfl) rfl rfl fun K10 hK10 => ?_
        have HK10 := Lib.hid hK10
        clear hK10
        go_simp
        refine HK10.out _ _ ⟨⟨A9.out.cell' 0 rfl, A9.out.cell' 1 rfl⟩, B9.out.cell' 0 rfl, B9.out.cell' 1 rfl⟩ ?_
        refine wpAnyH_done (by kernel_rfl) ?_ _
        clear HK6 HK7 HK8 HK9 HK10 A9 B9
        go_simp
        go_wp2_with fail
        refine bodyPost_ret (results_cctt rfl rfl (show Blk _ w.heap.size 88 #[.int .i64 au, .int .i64 aw] from P9.out) Tryz.underlying88 rfl (by kernel_rfl) rfl (show Blk _ (w.heap.size + 1) 88 #[.int .i64 ((-au)), .int .i64 ((-aw))] from Q9.out) Tryz.underlying88 rfl (by kernel_rfl)) rfl ?_
        exact ⟨au, aw, (-au), (-aw), false, _, hlu.lm, hlw.lm, hbu, hbw, rfl, I9.out⟩
    · skip
      go_wp2_with fail
      refine calls_told (fun W => GI B g a n c z w W ∧ Blk W w.heap.size 88 #[.int .i64 0, .int .i64 0] ∧ Blk W (w.heap.size + 1) 88 #[.int .i64 0, .int .i64 0] ∧ Blk W w2.heap.size 88 #[.int .i64 au, .int .i64 aw] ∧ Blk W (w2.heap.size + 1) 88 #[.int .i64 (aw), .int .i64 (au)])
        ⟨((I5.out.set (by omega) _ _).set (by omega) _ _), ((P5.out.skip (by show w.heap.size ≠ w2.heap.size + 1; omega) _).skip (by show w.heap.size ≠ w2.heap.size + 1; omega) _), ((Q5.out.skip (by show w.heap.size + 1 ≠ w2.heap.size + 1; omega) _).skip (by show w.heap.size + 1 ≠ w2.heap.size + 1; omega) _), ((A5.out.skip (by show w2.heap.size ≠ w2.heap.size + 1; omega) _).skip (by show w2.heap.size ≠ w2.heap.size + 1; omega) _), ((B5.out.put 0 _).put 1 _)⟩ ?_
      rintro W ⟨I5', P5', Q5', A5', B5'⟩
      refine (next_any W B g a n c z 3 I5'.src (by omega) (by omega)).mono ?_
      rintro e w6 ⟨r6, k6, h60, h61, rfl, s6, g6⟩
      have I6 := I5'.next s6 g6
      have P6 := P5'.grown g6 (by intro e; injection e; omega)
      have Q6 := Q5'.grown g6 (by intro e; injection e; omega)
      have A6 := A5'.grown g6 (by intro e; injection e; omega)
      have B6 := B5'.grown g6 (by intro e; injection e; omega)
      have sz6' := g6.size
      have hbu : Lm (aw) := by unfold Lm; unfold Lo at hlu hlw; omega
      have hbw : Lm (au) := by unfold Lm; unfold Lo at hlu hlw; omega
      clear a0 a1 b0 b1 f0 f1 I5 P5 Q5 A5 B5 I5' P5' Q5' A5' B5' s6 g6 n1 n2
      by_cases hr6 : r6 = 0
      · subst hr6
        have I6h := Lib.hid I6
        have P6h := Lib.hid P6
        have Q6h := Lib.hid Q6
        have A6h := Lib.hid A6
        have B6h := Lib.hid B6
        clear I6 P6 Q6 A6 B6
        go_wp2_with fail
        refine region_L (fun W => W.cell? ⟨w2.heap.size + 1, 0, none⟩ = some (.int .i64 (aw))) [6] (by kernel_rfl) ?_
        have hS0 : w6.drew.cell? ⟨w2.heap.size + 1, 0, none⟩ = some (.int .i64 (aw)) := B6h.out.drew.cell' 0 rfl
        refine take_P 0 (v := .pointer (some ⟨w2.heap.size + 1, 0, none⟩)) rfl (by kernel_rfl) (by kernel_rfl) (by kernel_rfl) (fun _ _ _ h => h) rfl (fun W' => by go_simp) ?_
        refine take_L 1 (v := .int .i64 (aw)) rfl (by kernel_rfl) (by kernel_rfl) (by kernel_rfl) (by kernel_rfl) (fun _ _ _ h => h) rfl (fun W' hW' => by go_simp) hS0 ?_
        refine take_P 2 (v := .pointer (some ⟨g, 0, none⟩)) rfl (by kernel_rfl) (by kernel_rfl) (by kernel_rfl) (fun _ _ _ h => h) rfl (fun W' => by go_simp) ?_
        refine one_L 3 (by kernel_rfl) rfl rfl fun K3 hK3 => ?_
        have HK3 := Lib.hid hK3
        clear hK3
        go_simp
        refine (range_any w6.drew B g a n c z (-2) 2 I6h.out.drew.src (by omega) (by omega) (by omega)).mono ?_
        rintro e w7 ⟨r7, k7, h70, h71, rfl, s7, g7⟩
        have I7 := Lib.hid (I6h.out.drew.next s7 g7)
        have P7 := Lib.hid (P6h.out.drew.grown g7 (by intro e; injection e; omega))
        have Q7 := Lib.hid (Q6h.out.drew.grown g7 (by intro e; injection e; omega))
        have A7 := Lib.hid (A6h.out.drew.grown g7 (by intro e; injection e; omega))
        have B7 := Lib.hid (B6h.out.drew.grown g7 (by intro e; injection e; omega))
        have sz7' : w6.heap.size ≤ w7.heap.size := g7.size
        have hq : IntKind.i64.wrap (aw + r7) = aw + r7 := by rw [IntKind.wrap_i64]; unfold Lo at hlu hlw; omega
        refine HK3.out _ _ (fun _ _ => B7.out.cell' 0 rfl) ?_
        clear hS0
        refine take_P 4 (v := .int .i64 (aw + r7)) rfl (by kernel_rfl) (by kernel_rfl) (by kernel_rfl) (fun _ _ _ h => h) rfl (fun W' => by go_simp) ?_
        refine take_P 5 (v := .pointer (some ⟨w2.heap.size + 1, 0, none⟩)) rfl (by kernel_rfl) (by kernel_rfl) (by kernel_rfl) (fun _ _ _ h => h) rfl (fun W' => by go_simp) ?_
        have qf := B7.out.frozen 0
        have qc := B7.out.cell' 0 rfl
        refine one_L 6 (by kernel_rfl) rfl rfl fun K6 hK6 => ?_
        have HK6 := Lib.hid hK6
        clear hK6
        go_simp
        refine HK6.out _ _ (fun h => absurd h (by decide)) ?_
        refine done_L (by kernel_rfl) ?_ _
        have I6 := I7.out.set (b := w2.heap.size + 1) (by omega) 0 (.int .i64 (aw + r7))
        have P6 := P7.out.skip (p := ⟨w2.heap.size + 1, 0, none⟩) (by show w.heap.size ≠ w2.heap.size + 1; omega) (.int .i64 (aw + r7))
        have Q6 := Q7.out.skip (p := ⟨w2.heap.size + 1, 0, none⟩) (by show w.heap.size + 1 ≠ w2.heap.size + 1; omega) (.int .i64 (aw + r7))
        have A6 := A7.out.skip (p := ⟨w2.heap.size + 1, 0, none⟩) (by show w2.heap.size ≠ w2.heap.size + 1; omega) (.int .i64 (aw + r7))
        have B6 := B7.out.put 0 (.int .i64 (aw + r7))
        have hbu : Lm (aw + r7) := by unfold Lo at hlu hlw; unfold Lm; omega
        clear qf qc hq s7 g7 HK3 HK6 I7 P7 Q7 A7 B7 I6h P6h Q6h A6h B6h
        refine on_told (fun W => GI B g a n c z w W ∧ Blk W w.heap.size 88 #[.int .i64 0, .int .i64 0] ∧ Blk W (w.heap.size + 1) 88 #[.int .i64 0, .int .i64 0] ∧ Blk W w2.heap.size 88 #[.int .i64 au, .int .i64 aw] ∧ Blk W (w2.heap.size + 1) 88 #[.int .i64 (aw + r7), .int .i64 (au)]) ⟨I6, P6, Q6, A6, B6⟩ ?_
        clear I6 P6 Q6 A6 B6
        rintro W6 ⟨I6, P6, Q6, A6, B6⟩
        go_simp
        go_wp2_with fail
        have a0 := A6.cell' 0 rfl
        have a1 := A6.cell' 1 rfl
        have b0 := B6.cell' 0 rfl
        have b1 := B6.cell' 1 rfl
        have sz6 := I6.size
        have KFT := Lib.hid (fun W => rfit_any au aw (aw + r7) (au) false (by unfold Lo at hlu; omega) (by unfold Lo at hlw; omega) (by unfold Lm at hbu; omega) (by unfold Lm at hbw; omega) W)
        refine wp_region_held_drew (S := fun W => (W.cell? ⟨w2.heap.size, 0, none⟩ = some (.int .i64 au) ∧ W.cell? ⟨w2.heap.size, 1, none⟩ = some (.int .i64 aw)) ∧ W.cell? ⟨w2.heap.size + 1, 0, none⟩ = some (.int .i64 ((aw + r7))) ∧ W.cell? ⟨w2.heap.size + 1, 1, none⟩ = some (.int .i64 ((au)))) (by kernel_rfl) ⟨⟨a0, a1⟩, b0, b1⟩ fun hS0 => ?_
        refine take_first 0 (v := .agg #[.int .i64 au, .int .i64 aw]) rfl (by kernel_rfl) (by kernel_rfl) (by kernel_rfl) (fun _ _ _ h => h) rfl (fun W' hW' => by obtain ⟨⟨q0, q1⟩, q2, q3⟩ := hW'; go_simp) hS0 ?_
        refine take_first 1 (v := .agg #[.int .i64 ((aw + r7)), .int .i64 ((au))]) rfl (by kernel_rfl) (by kernel_rfl) (by kernel_rfl) (fun _ _ _ h => h) rfl (fun W' hW' => by obtain ⟨⟨q0, q1⟩, q2, q3⟩ := hW'; go_simp) hS0 ?_
        refine take_first 2 (v := .bool false) rfl (by kernel_rfl) (by kernel_rfl) (by kernel_rfl) (fun _ _ _ h => h) rfl (fun W' hW' => by go_simp) hS0 ?_
        refine take_first 3 (v := .agg #[.int .i64 au, .int .i64 aw]) rfl (by kernel_rfl) (by kernel_rfl) (by kernel_rfl) (fun _ _ _ h => h) rfl (fun W' hW' => by obtain ⟨⟨q0, q1⟩, q2, q3⟩ := hW'; go_simp) hS0 ?_
        refine take_first 4 (v := .agg #[.int .i64 ((aw + r7)), .int .i64 ((au))]) rfl (by kernel_rfl) (by kernel_rfl) (by kernel_rfl) (fun _ _ _ h => h) rfl (fun W' hW' => by obtain ⟨⟨q0, q1⟩, q2, q3⟩ := hW'; go_simp) hS0 ?_
        refine take_first 5 (v := .bool false) rfl (by kernel_rfl) (by kernel_rfl) (by kernel_rfl) (fun _ _ _ h => h) rfl (fun W' hW' => by go_simp) hS0 ?_
        refine one_next 6 (by kernel_rfl) rfl rfl fun K6 hK6 => ?_
        have HK6 := Lib.hid hK6
        clear hK6
        go_simp
        refine (KFT.out _).mono ?_
        rintro e w7 ⟨rfl, bl7⟩
        have I7 := Lib.hid (I6.drew.below bl7)
        have P7 := P6.drew.below bl7 P6.drew.lt
        have Q7 := Q6.drew.below bl7 Q6.drew.lt
        have A7 := Lib.hid (A6.drew.below bl7 A6.drew.lt)
        have B7 := Lib.hid (B6.drew.below bl7 B6.drew.lt)
        have sz7 := bl7.size
        clear I6 P6 Q6 A6 B6 KFT bl7
        refine HK6.out _ _ ⟨⟨A7.out.cell' 0 rfl, A7.out.cell' 1 rfl⟩, B7.out.cell' 0 rfl, B7.out.cell' 1 rfl⟩ ?_
        clear a0 a1 b0 b1 hS0
        have p0 := P7.cell' 0 rfl
        have p1 := P7.cell' 1 rfl
        have pf0 := P7.frozen 0
        have pf1 := P7.frozen 1
        refine one_next 7 (by kernel_rfl) rfl rfl fun K7 hK7 => ?_
        have HK7 := Lib.hid hK7
        clear hK7
        go_simp
        have P8 := Lib.hid ((P7.put 0 (.int .i64 au)).put 1 (.int .i64 aw))
        have Q8 := ((Q7.skip (p := ⟨w.heap.size, 0, none⟩) (by show w.heap.size + 1 ≠ w.heap.size; omega) (.int .i64 au)).skip (p := ⟨w.heap.size, 1, none⟩) (by show w.heap.size + 1 ≠ w.heap.size; omega) (.int .i64 aw))
        have A8 := Lib.hid ((A7.out.skip (p := ⟨w.heap.size, 0, none⟩) (by show w2.heap.size ≠ w.heap.size; omega) (.int .i64 au)).skip (p := ⟨w.heap.size, 1, none⟩) (by show w2.heap.size ≠ w.heap.size; omega) (.int .i64 aw))
        have B8 := Lib.hid ((B7.out.skip (p := ⟨w.heap.size, 0, none⟩) (by show w2.heap.size + 1 ≠ w.heap.size; omega) (.int .i64 au)).skip (p := ⟨w.heap.size, 1, none⟩) (by show w2.heap.size + 1 ≠ w.heap.size; omega) (.int .i64 aw))
        have I8 := Lib.hid ((I7.out.set (b := w.heap.size) (by omega) 0 (.int .i64 au)).set (b := w.heap.size) (by omega) 1 (.int .i64 aw))
        refine HK7.out _ _ ⟨⟨A8.out.cell' 0 rfl, A8.out.cell' 1 rfl⟩, B8.out.cell' 0 rfl, B8.out.cell' 1 rfl⟩ ?_
        clear p0 p1 pf0 pf1 P7 Q7 A7 B7 I7
        have p0 := Q8.cell' 0 rfl
        have p1 := Q8.cell' 1 rfl
        have pf0 := Q8.frozen 0
        have pf1 := Q8.frozen 1
        refine one_next 8 (by kernel_rfl) rfl rfl fun K8 hK8 => ?_
        have HK8 := Lib.hid hK8
        clear hK8
        go_simp
        have Q9 := Lib.hid ((Q8.put 0 (.int .i64 ((aw + r7)))).put 1 (.int .i64 ((au))))
        have P9 := Lib.hid ((P8.out.skip (p := ⟨w.heap.size + 1, 0, none⟩) (by show w.heap.size ≠ w.heap.size + 1; omega) (.int .i64 ((aw + r7)))).skip (p := ⟨w.heap.size + 1, 1, none⟩) (by show w.heap.size ≠ w.heap.size + 1; omega) (.int .i64 ((au))))
        have A9 := Lib.hid ((A8.out.skip (p := ⟨w.heap.size + 1, 0, none⟩) (by show w2.heap.size ≠ w.heap.size + 1; omega) (.int .i64 ((aw + r7)))).skip (p := ⟨w.heap.size + 1, 1, none⟩) (by show w2.heap.size ≠ w.heap.size + 1; omega) (.int .i64 ((au))))
        have B9 := Lib.hid ((B8.out.skip (p := ⟨w.heap.size + 1, 0, none⟩) (by show w2.heap.size + 1 ≠ w.heap.size + 1; omega) (.int .i64 ((aw + r7)))).skip (p := ⟨w.heap.size + 1, 1, none⟩) (by show w2.heap.size + 1 ≠ w.heap.size + 1; omega) (.int .i64 ((au))))
        have I9 := Lib.hid ((I8.out.set (b := w.heap.size + 1) (by omega) 0 (.int .i64 ((aw + r7)))).set (b := w.heap.size + 1) (by omega) 1 (.int .i64 ((au))))
        refine HK8.out _ _ ⟨⟨A9.out.cell' 0 rfl, A9.out.cell' 1 rfl⟩, B9.out.cell' 0 rfl, B9.out.cell' 1 rfl⟩ ?_
        clear p0 p1 pf0 pf1 P8 Q8 A8 B8 I8
        refine one_next 9 (by kernel_rfl) rfl rfl fun K9 hK9 => ?_
        have HK9 := Lib.hid hK9
        clear hK9
        go_simp
        refine HK9.out _ _ ⟨⟨A9.out.cell' 0 rfl, A9.out.cell' 1 rfl⟩, B9.out.cell' 0 rfl, B9.out.cell' 1 rfl⟩ ?_
        refine one_next 10 (by kernel_rfl) rfl rfl fun K10 hK10 => ?_
        have HK10 := Lib.hid hK10
        clear hK10
        go_simp
        refine HK10.out _ _ ⟨⟨A9.out.cell' 0 rfl, A9.out.cell' 1 rfl⟩, B9.out.cell' 0 rfl, B9.out.cell' 1 rfl⟩ ?_
        refine wpAnyH_done (by kernel_rfl) ?_ _
        clear HK6 HK7 HK8 HK9 HK10 A9 B9
        go_simp
        go_wp2_with fail
        refine bodyPost_ret (results_cctt rfl rfl (show Blk _ w.heap.size 88 #[.int .i64 au, .int .i64 aw] from P9.out) Tryz.underlying88 rfl (by kernel_rfl) rfl (show Blk _ (w.heap.size + 1) 88 #[.int .i64 ((aw + r7)), .int .i64 ((au))] from Q9.out) Tryz.underlying88 rfl (by kernel_rfl)) rfl ?_
        exact ⟨au, aw, (aw + r7), (au), false, _, hlu.lm, hlw.lm, hbu, hbw, rfl, I9.out⟩
      · have k6 : (r6 == 0) = false := by simpa using hr6
        go_wp2_with fail
        have a0 := A6.cell' 0 rfl
        have a1 := A6.cell' 1 rfl
        have b0 := B6.cell' 0 rfl
        have b1 := B6.cell' 1 rfl
        have sz6 := I6.size
        have KFT := Lib.hid (fun W => rfit_any au aw (aw) (au) false (by unfold Lo at hlu; omega) (by unfold Lo at hlw; omega) (by unfold Lm at hbu; omega) (by unfold Lm at hbw; omega) W)
        refine wp_region_held_drew (S := fun W => (W.cell? ⟨w2.heap.size, 0, none⟩ = some (.int .i64 au) ∧ W.cell? ⟨w2.heap.size, 1, none⟩ = some (.int .i64 aw)) ∧ W.cell? ⟨w2.heap.size + 1, 0, none⟩ = some (.int .i64 ((aw))) ∧ W.cell? ⟨w2.heap.size + 1, 1, none⟩ = some (.int .i64 ((au)))) (by kernel_rfl) ⟨⟨a0, a1⟩, b0, b1⟩ fun hS0 => ?_
        refine take_first 0 (v := .agg #[.int .i64 au, .int .i64 aw]) rfl (by kernel_rfl) (by kernel_rfl) (by kernel_rfl) (fun _ _ _ h => h) rfl (fun W' hW' => by obtain ⟨⟨q0, q1⟩, q2, q3⟩ := hW'; go_simp) hS0 ?_
        refine take_first 1 (v := .agg #[.int .i64 ((aw)), .int .i64 ((au))]) rfl (by kernel_rfl) (by kernel_rfl) (by kernel_rfl) (fun _ _ _ h => h) rfl (fun W' hW' => by obtain ⟨⟨q0, q1⟩, q2, q3⟩ := hW'; go_simp) hS0 ?_
        refine take_first 2 (v := .bool false) rfl (by kernel_rfl) (by kernel_rfl) (by kernel_rfl) (fun _ _ _ h => h) rfl (fun W' hW' => by go_simp) hS0 ?_
        refine take_first 3 (v := .agg #[.int .i64 au, .int .i64 aw]) rfl (by kernel_rfl) (by kernel_rfl) (by kernel_rfl) (fun _ _ _ h => h) rfl (fun W' hW' => by obtain ⟨⟨q0, q1⟩, q2, q3⟩ := hW'; go_simp) hS0 ?_
        refine take_first 4 (v := .agg #[.int .i64 ((aw)), .int .i64 ((au))]) rfl (by kernel_rfl) (by kernel_rfl) (by kernel_rfl) (fun _ _ _ h => h) rfl (fun W' hW' => by obtain ⟨⟨q0, q1⟩, q2, q3⟩ := hW'; go_simp) hS0 ?_
        refine take_first 5 (v := .bool false) rfl (by kernel_rfl) (by kernel_rfl) (by kernel_rfl) (fun _ _ _ h => h) rfl (fun W' hW' => by go_simp) hS0 ?_
        refine one_next 6 (by kernel_rfl) rfl rfl fun K6 hK6 => ?_
        have HK6 := Lib.hid hK6
        clear hK6
        go_simp
        refine (KFT.out _).mono ?_
        rintro e w7 ⟨rfl, bl7⟩
        have I7 := Lib.hid (I6.drew.below bl7)
        have P7 := P6.drew.below bl7 P6.drew.lt
        have Q7 := Q6.drew.below bl7 Q6.drew.lt
        have A7 := Lib.hid (A6.drew.below bl7 A6.drew.lt)
        have B7 := Lib.hid (B6.drew.below bl7 B6.drew.lt)
        have sz7 := bl7.size
        clear I6 P6 Q6 A6 B6 KFT bl7
        refine HK6.out _ _ ⟨⟨A7.out.cell' 0 rfl, A7.out.cell' 1 rfl⟩, B7.out.cell' 0 rfl, B7.out.cell' 1 rfl⟩ ?_
        clear a0 a1 b0 b1 hS0
        have p0 := P7.cell' 0 rfl
        have p1 := P7.cell' 1 rfl
        have pf0 := P7.frozen 0
        have pf1 := P7.frozen 1
        refine one_next 7 (by kernel_rfl) rfl rfl fun K7 hK7 => ?_
        have HK7 := Lib.hid hK7
        clear hK7
        go_simp
        have P8 := Lib.hid ((P7.put 0 (.int .i64 au)).put 1 (.int .i64 aw))
        have Q8 := ((Q7.skip (p := ⟨w.heap.size, 0, none⟩) (by show w.heap.size + 1 ≠ w.heap.size; omega) (.int .i64 au)).skip (p := ⟨w.heap.size, 1, none⟩) (by show w.heap.size + 1 ≠ w.heap.size; omega) (.int .i64 aw))
        have A8 := Lib.hid ((A7.out.skip (p := ⟨w.heap.size, 0, none⟩) (by show w2.heap.size ≠ w.heap.size; omega) (.int .i64 au)).skip (p := ⟨w.heap.size, 1, none⟩) (by show w2.heap.size ≠ w.heap.size; omega) (.int .i64 aw))
        have B8 := Lib.hid ((B7.out.skip (p := ⟨w.heap.size, 0, none⟩) (by show w2.heap.size + 1 ≠ w.heap.size; omega) (.int .i64 au)).skip (p := ⟨w.heap.size, 1, none⟩) (by show w2.heap.size + 1 ≠ w.heap.size; omega) (.int .i64 aw))
        have I8 := Lib.hid ((I7.out.set (b := w.heap.size) (by omega) 0 (.int .i64 au)).set (b := w.heap.size) (by omega) 1 (.int .i64 aw))
        refine HK7.out _ _ ⟨⟨A8.out.cell' 0 rfl, A8.out.cell' 1 rfl⟩, B8.out.cell' 0 rfl, B8.out.cell' 1 rfl⟩ ?_
        clear p0 p1 pf0 pf1 P7 Q7 A7 B7 I7
        have p0 := Q8.cell' 0 rfl
        have p1 := Q8.cell' 1 rfl
        have pf0 := Q8.frozen 0
        have pf1 := Q8.frozen 1
        refine one_next 8 (by kernel_rfl) rfl rfl fun K8 hK8 => ?_
        have HK8 := Lib.hid hK8
        clear hK8
        go_simp
        have Q9 := Lib.hid ((Q8.put 0 (.int .i64 ((aw)))).put 1 (.int .i64 ((au))))
        have P9 := Lib.hid ((P8.out.skip (p := ⟨w.heap.size + 1, 0, none⟩) (by show w.heap.size ≠ w.heap.size + 1; omega) (.int .i64 ((aw)))).skip (p := ⟨w.heap.size + 1, 1, none⟩) (by show w.heap.size ≠ w.heap.size + 1; omega) (.int .i64 ((au))))
        have A9 := Lib.hid ((A8.out.skip (p := ⟨w.heap.size + 1, 0, none⟩) (by show w2.heap.size ≠ w.heap.size + 1; omega) (.int .i64 ((aw)))).skip (p := ⟨w.heap.size + 1, 1, none⟩) (by show w2.heap.size ≠ w.heap.size + 1; omega) (.int .i64 ((au))))
        have B9 := Lib.hid ((B8.out.skip (p := ⟨w.heap.size + 1, 0, none⟩) (by show w2.heap.size + 1 ≠ w.heap.size + 1; omega) (.int .i64 ((aw)))).skip (p := ⟨w.heap.size + 1, 1, none⟩) (by show w2.heap.size + 1 ≠ w.heap.size + 1; omega) (.int .i64 ((au))))
        have I9 := Lib.hid ((I8.out.set (b := w.heap.size + 1) (by omega) 0 (.int .i64 ((aw)))).set (b := w.heap.size + 1) (by omega) 1 (.int .i64 ((au))))
        refine HK8.out _ _ ⟨⟨A9.out.cell' 0 rfl, A9.out.cell' 1 rfl⟩, B9.out.cell' 0 rfl, B9.out.cell' 1 rfl⟩ ?_
        clear p0 p1 pf0 pf1 P8 Q8 A8 B8 I8
        refine one_next 9 (by kernel_rfl) rfl rfl fun K9 hK9 => ?_
        have HK9 := Lib.hid hK9
        clear hK9
        go_simp
        refine HK9.out _ _ ⟨⟨A9.out.cell' 0 rfl, A9.out.cell' 1 rfl⟩, B9.out.cell' 0 rfl, B9.out.cell' 1 rfl⟩ ?_
        refine one_next 10 (by kernel_rfl) rfl rfl fun K10 hK10 => ?_
        have HK10 := Lib.hid hK10
        clear hK10
        go_simp
        refine HK10.out _ _ ⟨⟨A9.out.cell' 0 rfl, A9.out.cell' 1 rfl⟩, B9.out.cell' 0 rfl, B9.out.cell' 1 rfl⟩ ?_
        refine wpAnyH_done (by kernel_rfl) ?_ _
        clear HK6 HK7 HK8 HK9 HK10 A9 B9
        go_simp
        go_wp2_with fail
        refine bodyPost_ret (results_cctt rfl rfl (show Blk _ w.heap.size 88 #[.int .i64 au, .int .i64 aw] from P9.out) Tryz.underlying88 rfl (by kernel_rfl) rfl (show Blk _ (w.heap.size + 1) 88 #[.int .i64 ((aw)), .int .i64 ((au))] from Q9.out) Tryz.underlying88 rfl (by kernel_rfl)) rfl ?_
        exact ⟨au, aw, (aw), (au), false, _, hlu.lm, hlw.lm, hbu, hbw, rfl, I9.out⟩
    · skip
      go_wp2_with fail
      refine calls_told (fun W => GI B g a n c z w W ∧ Blk W w.heap.size 88 #[.int .i64 0, .int .i64 0] ∧ Blk W (w.heap.size + 1) 88 #[.int .i64 0, .int .i64 0] ∧ Blk W w2.heap.size 88 #[.int .i64 au, .int .i64 aw] ∧ Blk W (w2.heap.size + 1) 88 #[.int .i64 (aw), .int .i64 (-au)])
        ⟨((I5.out.set (by omega) _ _).set (by omega) _ _), ((P5.out.skip (by show w.heap.size ≠ w2.heap.size + 1; omega) _).skip (by show w.heap.size ≠ w2.heap.size + 1; omega) _), ((Q5.out.skip (by show w.heap.size + 1 ≠ w2.heap.size + 1; omega) _).skip (by show w.heap.size + 1 ≠ w2.heap.size + 1; omega) _), ((A5.out.skip (by show w2.heap.size ≠ w2.heap.size + 1; omega) _).skip (by show w2.heap.size ≠ w2.heap.size + 1; omega) _), ((B5.out.put 0 _).put 1 _)⟩ ?_
      rintro W ⟨I5', P5', Q5', A5', B5'⟩
      refine (next_any W B g a n c z 3 I5'.src (by omega) (by omega)).mono ?_
      rintro e w6 ⟨r6, k6, h60, h61, rfl, s6, g6⟩
      have I6 := I5'.next s6 g6
      have P6 := P5'.grown g6 (by intro e; injection e; omega)
      have Q6 := Q5'.grown g6 (by intro e; injection e; omega)
      have A6 := A5'.grown g6 (by intro e; injection e; omega)
      have B6 := B5'.grown g6 (by intro e; injection e; omega)
      have sz6' := g6.size
      have hbu : Lm (aw) := by unfold Lm; unfold Lo at hlu hlw; omega
      have hbw : Lm (-au) := by unfold Lm; unfold Lo at hlu hlw; omega
      clear a0 a1 b0 b1 f0 f1 I5 P5 Q5 A5 B5 I5' P5' Q5' A5' B5' s6 g6 n1 n2
      by_cases hr6 : r6 = 0
      · subst hr6
        have I6h := Lib.hid I6
        have P6h := Lib.hid P6
        have Q6h := Lib.hid Q6
        have A6h := Lib.hid A6
        have B6h := Lib.hid B6
        clear I6 P6 Q6 A6 B6
        go_wp2_with fail
        refine region_L (fun W => W.cell? ⟨w2.heap.size + 1, 0, none⟩ = some (.int .i64 (aw))) [6] (by kernel_rfl) ?_
        have hS0 : w6.drew.cell? ⟨w2.heap.size + 1, 0, none⟩ = some (.int .i64 (aw)) := B6h.out.drew.cell' 0 rfl
        refine take_P 0 (v := .pointer (some ⟨w2.heap.size + 1, 0, none⟩)) rfl (by kernel_rfl) (by kernel_rfl) (by kernel_rfl) (fun _ _ _ h => h) rfl (fun W' => by go_simp) ?_
        refine take_L 1 (v := .int .i64 (aw)) rfl (by kernel_rfl) (by kernel_rfl) (by kernel_rfl) (by kernel_rfl) (fun _ _ _ h => h) rfl (fun W' hW' => by go_simp) hS0 ?_
        refine take_P 2 (v := .pointer (some ⟨g, 0, none⟩)) rfl (by kernel_rfl) (by kernel_rfl) (by kernel_rfl) (fun _ _ _ h => h) rfl (fun W' => by go_simp) ?_
        refine one_L 3 (by kernel_rfl) rfl rfl fun K3 hK3 => ?_
        have HK3 := Lib.hid hK3
        clear hK3
        go_simp
        refine (range_any w6.drew B g a n c z (-2) 2 I6h.out.drew.src (by omega) (by omega) (by omega)).mono ?_
        rintro e w7 ⟨r7, k7, h70, h71, rfl, s7, g7⟩
        have I7 := Lib.hid (I6h.out.drew.next s7 g7)
        have P7 := Lib.hid (P6h.out.drew.grown g7 (by intro e; injection e; omega))
        have Q7 := Lib.hid (Q6h.out.drew.grown g7 (by intro e; injection e; omega))
        have A7 := Lib.hid (A6h.out.drew.grown g7 (by intro e; injection e; omega))
        have B7 := Lib.hid (B6h.out.drew.grown g7 (by intro e; injection e; omega))
        have sz7' : w6.heap.size ≤ w7.heap.size := g7.size
        have hq : IntKind.i64.wrap (aw + r7) = aw + r7 := by rw [IntKind.wrap_i64]; unfold Lo at hlu hlw; omega
        refine HK3.out _ _ (fun _ _ => B7.out.cell' 0 rfl) ?_
        clear hS0
        refine take_P 4 (v := .int .i64 (aw + r7)) rfl (by kernel_rfl) (by kernel_rfl) (by kernel_rfl) (fun _ _ _ h => h) rfl (fun W' => by go_simp) ?_
        refine take_P 5 (v := .pointer (some ⟨w2.heap.size + 1, 0, none⟩)) rfl (by kernel_rfl) (by kernel_rfl) (by kernel_rfl) (fun _ _ _ h => h) rfl (fun W' => by go_simp) ?_
        have qf := B7.out.frozen 0
        have qc := B7.out.cell' 0 rfl
        refine one_L 6 (by kernel_rfl) rfl rfl fun K6 hK6 => ?_
        have HK6 := Lib.hid hK6
        clear hK6
        go_simp
        refine HK6.out _ _ (fun h => absurd h (by decide)) ?_
        refine done_L (by kernel_rfl) ?_ _
        have I6 := I7.out.set (b := w2.heap.size + 1) (by omega) 0 (.int .i64 (aw + r7))
        have P6 := P7.out.skip (p := ⟨w2.heap.size + 1, 0, none⟩) (by show w.heap.size ≠ w2.heap.size + 1; omega) (.int .i64 (aw + r7))
        have Q6 := Q7.out.skip (p := ⟨w2.heap.size + 1, 0, none⟩) (by show w.heap.size + 1 ≠ w2.heap.size + 1; omega) (.int .i64 (aw + r7))
        have A6 := A7.out.skip (p := ⟨w2.heap.size + 1, 0, none⟩) (by show w2.heap.size ≠ w2.heap.size + 1; omega) (.int .i64 (aw + r7))
        have B6 := B7.out.put 0 (.int .i64 (aw + r7))
        have hbu : Lm (aw + r7) := by unfold Lo at hlu hlw; unfold Lm; omega
        clear qf qc hq s7 g7 HK3 HK6 I7 P7 Q7 A7 B7 I6h P6h Q6h A6h B6h
        refine on_told (fun W => GI B g a n c z w W ∧ Blk W w.heap.size 88 #[.int .i64 0, .int .i64 0] ∧ Blk W (w.heap.size + 1) 88 #[.int .i64 0, .int .i64 0] ∧ Blk W w2.heap.size 88 #[.int .i64 au, .int .i64 aw] ∧ Blk W (w2.heap.size + 1) 88 #[.int .i64 (aw + r7), .int .i64 (-au)]) ⟨I6, P6, Q6, A6, B6⟩ ?_
        clear I6 P6 Q6 A6 B6
        rintro W6 ⟨I6, P6, Q6, A6, B6⟩
        go_simp
        go_wp2_with fail
        have a0 := A6.cell' 0 rfl
        have a1 := A6.cell' 1 rfl
        have b0 := B6.cell' 0 rfl
        have b1 := B6.cell' 1 rfl
        have sz6 := I6.size
        have KFT := Lib.hid (fun W => rfit_any au aw (aw + r7) (-au) false (by unfold Lo at hlu; omega) (by unfold Lo at hlw; omega) (by unfold Lm at hbu; omega) (by unfold Lm at hbw; omega) W)
        refine wp_region_held_drew (S := fun W => (W.cell? ⟨w2.heap.size, 0, none⟩ = some (.int .i64 au) ∧ W.cell? ⟨w2.heap.size, 1, none⟩ = some (.int .i64 aw)) ∧ W.cell? ⟨w2.heap.size + 1, 0, none⟩ = some (.int .i64 ((aw + r7))) ∧ W.cell? ⟨w2.heap.size + 1, 1, none⟩ = some (.int .i64 ((-au)))) (by kernel_rfl) ⟨⟨a0, a1⟩, b0, b1⟩ fun hS0 => ?_
        refine take_first 0 (v := .agg #[.int .i64 au, .int .i64 aw]) rfl (by kernel_rfl) (by kernel_rfl) (by kernel_rfl) (fun _ _ _ h => h) rfl (fun W' hW' => by obtain ⟨⟨q0, q1⟩, q2, q3⟩ := hW'; go_simp) hS0 ?_
        refine take_first 1 (v := .agg #[.int .i64 ((aw + r7)), .int .i64 ((-au))]) rfl (by kernel_rfl) (by kernel_rfl) (by kernel_rfl) (fun _ _ _ h => h) rfl (fun W' hW' => by obtain ⟨⟨q0, q1⟩, q2, q3⟩ := hW'; go_simp) hS0 ?_
        refine take_first 2 (v := .bool false) rfl (by kernel_rfl) (by kernel_rfl) (by kernel_rfl) (fun _ _ _ h => h) rfl (fun W' hW' => by go_simp) hS0 ?_
        refine take_first 3 (v := .agg #[.int .i64 au, .int .i64 aw]) rfl (by kernel_rfl) (by kernel_rfl) (by kernel_rfl) (fun _ _ _ h => h) rfl (fun W' hW' => by obtain ⟨⟨q0, q1⟩, q2, q3⟩ := hW'; go_simp) hS0 ?_
        refine take_first 4 (v := .agg #[.int .i64 ((aw + r7)), .int .i64 ((-au))]) rfl (by kernel_rfl) (by kernel_rfl) (by kernel_rfl) (fun _ _ _ h => h) rfl (fun W' hW' => by obtain ⟨⟨q0, q1⟩, q2, q3⟩ := hW'; go_simp) hS0 ?_
        refine take_first 5 (v := .bool false) rfl (by kernel_rfl) (by kernel_rfl) (by kernel_rfl) (fun _ _ _ h => h) rfl (fun W' hW' => by go_simp) hS0 ?_
        refine one_next 6 (by kernel_rfl) rfl rfl fun K6 hK6 => ?_
        have HK6 := Lib.hid hK6
        clear hK6
        go_simp
        refine (KFT.out _).mono ?_
        rintro e w7 ⟨rfl, bl7⟩
        have I7 := Lib.hid (I6.drew.below bl7)
        have P7 := P6.drew.below bl7 P6.drew.lt
        have Q7 := Q6.drew.below bl7 Q6.drew.lt
        have A7 := Lib.hid (A6.drew.below bl7 A6.drew.lt)
        have B7 := Lib.hid (B6.drew.below bl7 B6.drew.lt)
        have sz7 := bl7.size
        clear I6 P6 Q6 A6 B6 KFT bl7
        refine HK6.out _ _ ⟨⟨A7.out.cell' 0 rfl, A7.out.cell' 1 rfl⟩, B7.out.cell' 0 rfl, B7.out.cell' 1 rfl⟩ ?_
        clear a0 a1 b0 b1 hS0
        have p0 := P7.cell' 0 rfl
        have p1 := P7.cell' 1 rfl
        have pf0 := P7.frozen 0
        have pf1 := P7.frozen 1
        refine one_next 7 (by kernel_rfl) rfl rfl fun K7 hK7 => ?_
        have HK7 := Lib.hid hK7
        clear hK7
        go_simp
        have P8 := Lib.hid ((P7.put 0 (.int .i64 au)).put 1 (.int .i64 aw))
        have Q8 := ((Q7.skip (p := ⟨w.heap.size, 0, none⟩) (by show w.heap.size + 1 ≠ w.heap.size; omega) (.int .i64 au)).skip (p := ⟨w.heap.size, 1, none⟩) (by show w.heap.size + 1 ≠ w.heap.size; omega) (.int .i64 aw))
        have A8 := Lib.hid ((A7.out.skip (p := ⟨w.heap.size, 0, none⟩) (by show w2.heap.size ≠ w.heap.size; omega) (.int .i64 au)).skip (p := ⟨w.heap.size, 1, none⟩) (by show w2.heap.size ≠ w.heap.size; omega) (.int .i64 aw))
        have B8 := Lib.hid ((B7.out.skip (p := ⟨w.heap.size, 0, none⟩) (by show w2.heap.size + 1 ≠ w.heap.size; omega) (.int .i64 au)).skip (p := ⟨w.heap.size, 1, none⟩) (by show w2.heap.size + 1 ≠ w.heap.size; omega) (.int .i64 aw))
        have I8 := Lib.hid ((I7.out.set (b := w.heap.size) (by omega) 0 (.int .i64 au)).set (b := w.heap.size) (by omega) 1 (.int .i64 aw))
        refine HK7.out _ _ ⟨⟨A8.out.cell' 0 rfl, A8.out.cell' 1 rfl⟩, B8.out.cell' 0 rfl, B8.out.cell' 1 rfl⟩ ?_
        clear p0 p1 pf0 pf1 P7 Q7 A7 B7 I7
        have p0 := Q8.cell' 0 rfl
        have p1 := Q8.cell' 1 rfl
        have pf0 := Q8.frozen 0
        have pf1 := Q8.frozen 1
        refine one_next 8 (by kernel_rfl) rfl rfl fun K8 hK8 => ?_
        have HK8 := Lib.hid hK8
        clear hK8
        go_simp
        have Q9 := Lib.hid ((Q8.put 0 (.int .i64 ((aw + r7)))).put 1 (.int .i64 ((-au))))
        have P9 := Lib.hid ((P8.out.skip (p := ⟨w.heap.size + 1, 0, none⟩) (by show w.heap.size ≠ w.heap.size + 1; omega) (.int .i64 ((aw + r7)))).skip (p := ⟨w.heap.size + 1, 1, none⟩) (by show w.heap.size ≠ w.heap.size + 1; omega) (.int .i64 ((-au))))
        have A9 := Lib.hid ((A8.out.skip (p := ⟨w.heap.size + 1, 0, none⟩) (by show w2.heap.size ≠ w.heap.size + 1; omega) (.int .i64 ((aw + r7)))).skip (p := ⟨w.heap.size + 1, 1, none⟩) (by show w2.heap.size ≠ w.heap.size + 1; omega) (.int .i64 ((-au))))
        have B9 := Lib.hid ((B8.out.skip (p := ⟨w.heap.size + 1, 0, none⟩) (by show w2.heap.size + 1 ≠ w.heap.size + 1; omega) (.int .i64 ((aw + r7)))).skip (p := ⟨w.heap.size + 1, 1, none⟩) (by show w2.heap.size + 1 ≠ w.heap.size + 1; omega) (.int .i64 ((-au))))
        have I9 := Lib.hid ((I8.out.set (b := w.heap.size + 1) (by omega) 0 (.int .i64 ((aw + r7)))).set (b := w.heap.size + 1) (by omega) 1 (.int .i64 ((-au))))
        refine HK8.out _ _ ⟨⟨A9.out.cell' 0 rfl, A9.out.cell' 1 rfl⟩, B9.out.cell' 0 rfl, B9.out.cell' 1 rfl⟩ ?_
        clear p0 p1 pf0 pf1 P8 Q8 A8 B8 I8
        refine one_next 9 (by kernel_rfl) rfl rfl fun K9 hK9 => ?_
        have HK9 := Lib.hid hK9
        clear hK9
        go_simp
        refine HK9.out _ _ ⟨⟨A9.out.cell' 0 rfl, A9.out.cell' 1 rfl⟩, B9.out.cell' 0 rfl, B9.out.cell' 1 rfl⟩ ?_
        refine one_next 10 (by kernel_rfl) rfl rfl fun K10 hK10 => ?_
        have HK10 := Lib.hid hK10
        clear hK10
        go_simp
        refine HK10.out _ _ ⟨⟨A9.out.cell' 0 rfl, A9.out.cell' 1 rfl⟩, B9.out.cell' 0 rfl, B9.out.cell' 1 rfl⟩ ?_
        refine wpAnyH_done (by kernel_rfl) ?_ _
        clear HK6 HK7 HK8 HK9 HK10 A9 B9
        go_simp
        go_wp2_with fail
        refine bodyPost_ret (results_cctt rfl rfl (show Blk _ w.heap.size 88 #[.int .i64 au, .int .i64 aw] from P9.out) Tryz.underlying88 rfl (by kernel_rfl) rfl (show Blk _ (w.heap.size + 1) 88 #[.int .i64 ((aw + r7)), .int .i64 ((-au))] from Q9.out) Tryz.underlying88 rfl (by kernel_rfl)) rfl ?_
        exact ⟨au, aw, (aw + r7), (-au), false, _, hlu.lm, hlw.lm, hbu, hbw, rfl, I9.out⟩
      · have k6 : (r6 == 0) = false := by simpa using hr6
        go_wp2_with fail
        have a0 := A6.cell' 0 rfl
        have a1 := A6.cell' 1 rfl
        have b0 := B6.cell' 0 rfl
        have b1 := B6.cell' 1 rfl
        have sz6 := I6.size
        have KFT := Lib.hid (fun W => rfit_any au aw (aw) (-au) false (by unfold Lo at hlu; omega) (by unfold Lo at hlw; omega) (by unfold Lm at hbu; omega) (by unfold Lm at hbw; omega) W)
        refine wp_region_held_drew (S := fun W => (W.cell? ⟨w2.heap.size, 0, none⟩ = some (.int .i64 au) ∧ W.cell? ⟨w2.heap.size, 1, none⟩ = some (.int .i64 aw)) ∧ W.cell? ⟨w2.heap.size + 1, 0, none⟩ = some (.int .i64 ((aw))) ∧ W.cell? ⟨w2.heap.size + 1, 1, none⟩ = some (.int .i64 ((-au)))) (by kernel_rfl) ⟨⟨a0, a1⟩, b0, b1⟩ fun hS0 => ?_
        refine take_first 0 (v := .agg #[.int .i64 au, .int .i64 aw]) rfl (by kernel_rfl) (by kernel_rfl) (by kernel_rfl) (fun _ _ _ h => h) rfl (fun W' hW' => by obtain ⟨⟨q0, q1⟩, q2, q3⟩ := hW'; go_simp) hS0 ?_
        refine take_first 1 (v := .agg #[.int .i64 ((aw)), .int .i64 ((-au))]) rfl (by kernel_rfl) (by kernel_rfl) (by kernel_rfl) (fun _ _ _ h => h) rfl (fun W' hW' => by obtain ⟨⟨q0, q1⟩, q2, q3⟩ := hW'; go_simp) hS0 ?_
        refine take_first 2 (v := .bool false) rfl (by kernel_rfl) (by kernel_rfl) (by kernel_rfl) (fun _ _ _ h => h) rfl (fun W' hW' => by go_simp) hS0 ?_
        refine take_first 3 (v := .agg #[.int .i64 au, .int .i64 aw]) rfl (by kernel_rfl) (by kernel_rfl) (by kernel_rfl) (fun _ _ _ h => h) rfl (fun W' hW' => by obtain ⟨⟨q0, q1⟩, q2, q3⟩ := hW'; go_simp) hS0 ?_
        refine take_first 4 (v := .agg #[.int .i64 ((aw)), .int .i64 ((-au))]) rfl (by kernel_rfl) (by kernel_rfl) (by kernel_rfl) (fun _ _ _ h => h) rfl (fun W' hW' => by obtain ⟨⟨q0, q1⟩, q2, q3⟩ := hW'; go_simp) hS0 ?_
        refine take_first 5 (v := .bool false) rfl (by kernel_rfl) (by kernel_rfl) (by kernel_rfl) (fun _ _ _ h => h) rfl (fun W' hW' => by go_simp) hS0 ?_
        refine one_next 6 (by kernel_rfl) rfl rfl fun K6 hK6 => ?_
        have HK6 := Lib.hid hK6
        clear hK6
        go_simp
        refine (KFT.out _).mono ?_
        rintro e w7 ⟨rfl, bl7⟩
        have I7 := Lib.hid (I6.drew.below bl7)
        have P7 := P6.drew.below bl7 P6.drew.lt
        have Q7 := Q6.drew.below bl7 Q6.drew.lt
        have A7 := Lib.hid (A6.drew.below bl7 A6.drew.lt)
        have B7 := Lib.hid (B6.drew.below bl7 B6.drew.lt)
        have sz7 := bl7.size
        clear I6 P6 Q6 A6 B6 KFT bl7
        refine HK6.out _ _ ⟨⟨A7.out.cell' 0 rfl, A7.out.cell' 1 rfl⟩, B7.out.cell' 0 rfl, B7.out.cell' 1 rfl⟩ ?_
        clear a0 a1 b0 b1 hS0
        have p0 := P7.cell' 0 rfl
        have p1 := P7.cell' 1 rfl
        have pf0 := P7.frozen 0
        have pf1 := P7.frozen 1
        refine one_next 7 (by kernel_rfl) rfl rfl fun K7 hK7 => ?_
        have HK7 := Lib.hid hK7
        clear hK7
        go_simp
        have P8 := Lib.hid ((P7.put 0 (.int .i64 au)).put 1 (.int .i64 aw))
        have Q8 := ((Q7.skip (p := ⟨w.heap.size, 0, none⟩) (by show w.heap.size + 1 ≠ w.heap.size; omega) (.int .i64 au)).skip (p := ⟨w.heap.size, 1, none⟩) (by show w.heap.size + 1 ≠ w.heap.size; omega) (.int .i64 aw))
        have A8 := Lib.hid ((A7.out.skip (p := ⟨w.heap.size, 0, none⟩) (by show w2.heap.size ≠ w.heap.size; omega) (.int .i64 au)).skip (p := ⟨w.heap.size, 1, none⟩) (by show w2.heap.size ≠ w.heap.size; omega) (.int .i64 aw))
        have B8 := Lib.hid ((B7.out.skip (p := ⟨w.heap.size, 0, none⟩) (by show w2.heap.size + 1 ≠ w.heap.size; omega) (.int .i64 au)).skip (p := ⟨w.heap.size, 1, none⟩) (by show w2.heap.size + 1 ≠ w.heap.size; omega) (.int .i64 aw))
        have I8 := Lib.hid ((I7.out.set (b := w.heap.size) (by omega) 0 (.int .i64 au)).set (b := w.heap.size) (by omega) 1 (.int .i64 aw))
        refine HK7.out _ _ ⟨⟨A8.out.cell' 0 rfl, A8.out.cell' 1 rfl⟩, B8.out.cell' 0 rfl, B8.out.cell' 1 rfl⟩ ?_
        clear p0 p1 pf0 pf1 P7 Q7 A7 B7 I7
        have p0 := Q8.cell' 0 rfl
        have p1 := Q8.cell' 1 rfl
        have pf0 := Q8.frozen 0
        have pf1 := Q8.frozen 1
        refine one_next 8 (by kernel_rfl) rfl rfl fun K8 hK8 => ?_
        have HK8 := Lib.hid hK8
        clear hK8
        go_simp
        have Q9 := Lib.hid ((Q8.put 0 (.int .i64 ((aw)))).put 1 (.int .i64 ((-au))))
        have P9 := Lib.hid ((P8.out.skip (p := ⟨w.heap.size + 1, 0, none⟩) (by show w.heap.size ≠ w.heap.size + 1; omega) (.int .i64 ((aw)))).skip (p := ⟨w.heap.size + 1, 1, none⟩) (by show w.heap.size ≠ w.heap.size + 1; omega) (.int .i64 ((-au))))
        have A9 := Lib.hid ((A8.out.skip (p := ⟨w.heap.size + 1, 0, none⟩) (by show w2.heap.size ≠ w.heap.size + 1; omega) (.int .i64 ((aw)))).skip (p := ⟨w.heap.size + 1, 1, none⟩) (by show w2.heap.size ≠ w.heap.size + 1; omega) (.int .i64 ((-au))))
        have B9 := Lib.hid ((B8.out.skip (p := ⟨w.heap.size + 1, 0, none⟩) (by show w2.heap.size + 1 ≠ w.heap.size + 1; omega) (.int .i64 ((aw)))).skip (p := ⟨w.heap.size + 1, 1, none⟩) (by show w2.heap.size + 1 ≠ w.heap.size + 1; omega) (.int .i64 ((-au))))
        have I9 := Lib.hid ((I8.out.set (b := w.heap.size + 1) (by omega) 0 (.int .i64 ((aw)))).set (b := w.heap.size + 1) (by omega) 1 (.int .i64 ((-au))))
        refine HK8.out _ _ ⟨⟨A9.out.cell' 0 rfl, A9.out.cell' 1 rfl⟩, B9.out.cell' 0 rfl, B9.out.cell' 1 rfl⟩ ?_
        clear p0 p1 pf0 pf1 P8 Q8 A8 B8 I8
        refine one_next 9 (by kernel_rfl) rfl rfl fun K9 hK9 => ?_
        have HK9 := Lib.hid hK9
        clear hK9
        go_simp
        refine HK9.out _ _ ⟨⟨A9.out.cell' 0 rfl, A9.out.cell' 1 rfl⟩, B9.out.cell' 0 rfl, B9.out.cell' 1 rfl⟩ ?_
        refine one_next 10 (by kernel_rfl) rfl rfl fun K10 hK10 => ?_
        have HK10 := Lib.hid hK10
        clear hK10
        go_simp
        refine HK10.out _ _ ⟨⟨A9.out.cell' 0 rfl, A9.out.cell' 1 rfl⟩, B9.out.cell' 0 rfl, B9.out.cell' 1 rfl⟩ ?_
        refine wpAnyH_done (by kernel_rfl) ?_ _
        clear HK6 HK7 HK8 HK9 HK10 A9 B9
        go_simp
        go_wp2_with fail
        refine bodyPost_ret (results_cctt rfl rfl (show Blk _ w.heap.size 88 #[.int .i64 au, .int .i64 aw] from P9.out) Tryz.underlying88 rfl (by kernel_rfl) rfl (show Blk _ (w.heap.size + 1) 88 #[.int .i64 ((aw)), .int .i64 ((-au))] from Q9.out) Tryz.underlying88 rfl (by kernel_rfl)) rfl ?_
        exact ⟨au, aw, (aw), (-au), false, _, hlu.lm, hlw.lm, hbu, hbw, rfl, I9.out⟩
  · skip
    rcases (show r5 = 0 ∨ r5 = 1 ∨ r5 = 2 ∨ r5 = 3 by omega) with rfl | rfl | rfl | rfl
    · skip
      go_wp2_with fail
      refine wp_told (fun W => GI B g a n c z w W ∧ Blk W w.heap.size 88 #[.int .i64 0, .int .i64 0] ∧ Blk W (w.heap.size + 1) 88 #[.int .i64 0, .int .i64 0] ∧ Blk W w2.heap.size 88 #[.int .i64 au, .int .i64 aw] ∧ Blk W (w2.heap.size + 1) 88 #[.int .i64 (au), .int .i64 (aw)])
        ⟨((((I5.out.set (by omega) _ _).set (by omega) _ _).set (by omega) _ _).set (by omega) _ _), ((((P5.out.skip (by show w.heap.size ≠ w2.heap.size + 1; omega) _).skip (by show w.heap.size ≠ w2.heap.size + 1; omega) _).skip (by show w.heap.size ≠ w2.heap.size + 1; omega) _).skip (by show w.heap.size ≠ w2.heap.size + 1; omega) _), ((((Q5.out.skip (by show w.heap.size + 1 ≠ w2.heap.size + 1; omega) _).skip (by show w.heap.size + 1 ≠ w2.heap.size + 1; omega) _).skip (by show w.heap.size + 1 ≠ w2.heap.size + 1; omega) _).skip (by show w.heap.size + 1 ≠ w2.heap.size + 1; omega) _), ((((A5.out.skip (by show w2.heap.size ≠ w2.heap.size + 1; omega) _).skip (by show w2.heap.size ≠ w2.heap.size + 1; omega) _).skip (by show w2.heap.size ≠ w2.heap.size + 1; omega) _).skip (by show w2.heap.size ≠ w2.heap.size + 1; omega) _), ((((B5.out.put 0 _).put 1 _).put 0 _).put 1 _)⟩ ?_
      clear a0 a1 b0 b1 f0 f1 n1 n2 I5 P5 Q5 A5 B5
      rintro W ⟨I6, P6, Q6, A6, B6⟩
      have hbu := hlu.lm
      have hbw := hlw.lm
      have a0 := A6.cell' 0 rfl
      have a1 := A6.cell' 1 rfl
      have b0 := B6.cell' 0 rfl
      have b1 := B6.cell' 1 rfl
      have sz6 := I6.size
      have KFT := Lib.hid (fun W => rfit_any au aw au aw true (by unfold Lo at hlu; omega) (by unfold Lo at hlw; omega) (by unfold Lm at hbu; omega) (by unfold Lm at hbw; omega) W)
      refine wp_region_held_drew (S := fun W => (W.cell? ⟨w2.heap.size, 0, none⟩ = some (.int .i64 au) ∧ W.cell? ⟨w2.heap.size, 1, none⟩ = some (.int .i64 aw)) ∧ W.cell? ⟨w2.heap.size + 1, 0, none⟩ = some (.int .i64 (au)) ∧ W.cell? ⟨w2.heap.size + 1, 1, none⟩ = some (.int .i64 (aw))) (by kernel_rfl) ⟨⟨a0, a1⟩, b0, b1⟩ fun hS0 => ?_
      refine take_first 0 (v := .agg #[.int .i64 au, .int .i64 aw]) rfl (by kernel_rfl) (by kernel_rfl) (by kernel_rfl) (fun _ _ _ h => h) rfl (fun W' hW' => by obtain ⟨⟨q0, q1⟩, q2, q3⟩ := hW'; go_simp) hS0 ?_
      refine take_first 1 (v := .agg #[.int .i64 (au), .int .i64 (aw)]) rfl (by kernel_rfl) (by kernel_rfl) (by kernel_rfl) (fun _ _ _ h => h) rfl (fun W' hW' => by obtain ⟨⟨q0, q1⟩, q2, q3⟩ := hW'; go_simp) hS0 ?_
      refine take_first 2 (v := .bool true) rfl (by kernel_rfl) (by kernel_rfl) (by kernel_rfl) (fun _ _ _ h => h) rfl (fun W' hW' => by go_simp) hS0 ?_
      refine take_first 3 (v := .agg #[.int .i64 au, .int .i64 aw]) rfl (by kernel_rfl) (by kernel_rfl) (by kernel_rfl) (fun _ _ _ h => h) rfl (fun W' hW' => by obtain ⟨⟨q0, q1⟩, q2, q3⟩ := hW'; go_simp) hS0 ?_
      refine take_first 4 (v := .agg #[.int .i64 (au), .int .i64 (aw)]) rfl (by kernel_rfl) (by kernel_rfl) (by kernel_rfl) (fun _ _ _ h => h) rfl (fun W' hW' => by obtain ⟨⟨q0, q1⟩, q2, q3⟩ := hW'; go_simp) hS0 ?_
      refine take_first 5 (v := .bool true) rfl (by kernel_rfl) (by kernel_rfl) (by kernel_rfl) (fun _ _ _ h => h) rfl (fun W' hW' => by go_simp) hS0 ?_
      refine one_next 6 (by kernel_rfl) rfl rfl fun K6 hK6 => ?_
      have HK6 := Lib.hid hK6
      clear hK6
      go_simp
      refine (KFT.out _).mono ?_
      rintro e w7 ⟨rfl, bl7⟩
      have I7 := Lib.hid (I6.drew.below bl7)
      have P7 := P6.drew.below bl7 P6.drew.lt
      have Q7 := Q6.drew.below bl7 Q6.drew.lt
      have A7 := Lib.hid (A6.drew.below bl7 A6.drew.lt)
      have B7 := Lib.hid (B6.drew.below bl7 B6.drew.lt)
      have sz7 := bl7.size
      clear I6 P6 Q6 A6 B6 KFT bl7
      refine HK6.out _ _ ⟨⟨A7.out.cell' 0 rfl, A7.out.cell' 1 rfl⟩, B7.out.cell' 0 rfl, B7.out.cell' 1 rfl⟩ ?_
      clear a0 a1 b0 b1 hS0
      have p0 := P7.cell' 0 rfl
      have p1 := P7.cell' 1 rfl
      have pf0 := P7.frozen 0
      have pf1 := P7.frozen 1
      refine one_next 7 (by kernel_rfl) rfl rfl fun K7 hK7 => ?_
      have HK7 := Lib.hid hK7
      clear hK7
      go_simp
      have P8 := Lib.hid ((P7.put 0 (.int .i64 au)).put 1 (.int .i64 aw))
      have Q8 := ((Q7.skip (p := ⟨w.heap.size, 0, none⟩) (by show w.heap.size + 1 ≠ w.heap.size; omega) (.int .i64 au)).skip (p := ⟨w.heap.size, 1, none⟩) (by show w.heap.size + 1 ≠ w.heap.size; omega) (.int .i64 aw))
      have A8 := Lib.hid ((A7.out.skip (p := ⟨w.heap.size, 0, none⟩) (by show w2.heap.size ≠ w.heap.size; omega) (.int .i64 au)).skip (p := ⟨w.heap.size, 1, none⟩) (by show w2.heap.size ≠ w.heap.size; omega) (.int .i64 aw))
      have B8 := Lib.hid ((B7.out.skip (p := ⟨w.heap.size, 0, none⟩) (by show w2.heap.size + 1 ≠ w.heap.size; omega) (.int .i64 au)).skip (p := ⟨w.heap.size, 1, none⟩) (by show w2.heap.size + 1 ≠ w.heap.size; omega) (.int .i64 aw))
      have I8 := Lib.hid ((I7.out.set (b := w.heap.size) (by omega) 0 (.int .i64 au)).set (b := w.heap.size) (by omega) 1 (.int .i64 aw))
      refine HK7.out _ _ ⟨⟨A8.out.cell' 0 rfl, A8.out.cell' 1 rfl⟩, B8.out.cell' 0 rfl, B8.out.cell' 1 rfl⟩ ?_
      clear p0 p1 pf0 pf1 P7 Q7 A7 B7 I7
      have p0 := Q8.cell' 0 rfl
      have p1 := Q8.cell' 1 rfl
      have pf0 := Q8.frozen 0
      have pf1 := Q8.frozen 1
      refine one_next 8 (by kernel_rfl) rfl rfl fun K8 hK8 => ?_
      have HK8 := Lib.hid hK8
      clear hK8
      go_simp
      have Q9 := Lib.hid ((Q8.put 0 (.int .i64 (au))).put 1 (.int .i64 (aw)))
      have P9 := Lib.hid ((P8.out.skip (p := ⟨w.heap.size + 1, 0, none⟩) (by show w.heap.size ≠ w.heap.size + 1; omega) (.int .i64 (au))).skip (p := ⟨w.heap.size + 1, 1, none⟩) (by show w.heap.size ≠ w.heap.size + 1; omega) (.int .i64 (aw)))
      have A9 := Lib.hid ((A8.out.skip (p := ⟨w.heap.size + 1, 0, none⟩) (by show w2.heap.size ≠ w.heap.size + 1; omega) (.int .i64 (au))).skip (p := ⟨w.heap.size + 1, 1, none⟩) (by show w2.heap.size ≠ w.heap.size + 1; omega) (.int .i64 (aw)))
      have B9 := Lib.hid ((B8.out.skip (p := ⟨w.heap.size + 1, 0, none⟩) (by show w2.heap.size + 1 ≠ w.heap.size + 1; omega) (.int .i64 (au))).skip (p := ⟨w.heap.size + 1, 1, none⟩) (by show w2.heap.size + 1 ≠ w.heap.size + 1; omega) (.int .i64 (aw)))
      have I9 := Lib.hid ((I8.out.set (b := w.heap.size + 1) (by omega) 0 (.int .i64 (au))).set (b := w.heap.size + 1) (by omega) 1 (.int .i64 (aw)))
      refine HK8.out _ _ ⟨⟨A9.out.cell' 0 rfl, A9.out.cell' 1 rfl⟩, B9.out.cell' 0 rfl, B9.out.cell' 1 rfl⟩ ?_
      clear p0 p1 pf0 pf1 P8 Q8 A8 B8 I8
      refine one_next 9 (by kernel_rfl) rfl rfl fun K9 hK9 => ?_
      have HK9 := Lib.hid hK9
      clear hK9
      go_simp
      refine HK9.out _ _ ⟨⟨A9.out.cell' 0 rfl, A9.out.cell' 1 rfl⟩, B9.out.cell' 0 rfl, B9.out.cell' 1 rfl⟩ ?_
      refine one_next 10 (by kernel_rfl) rfl rfl fun K10 hK10 => ?_
      have HK10 := Lib.hid hK10
      clear hK10
      go_simp
      refine HK10.out _ _ ⟨⟨A9.out.cell' 0 rfl, A9.out.cell' 1 rfl⟩, B9.out.cell' 0 rfl, B9.out.cell' 1 rfl⟩ ?_
      refine wpAnyH_done (by kernel_rfl) ?_ _
      clear HK6 HK7 HK8 HK9 HK10 A9 B9
      go_simp
      go_wp2_with fail
      refine bodyPost_ret (results_cctt rfl rfl (show Blk _ w.heap.size 88 #[.int .i64 au, .int .i64 aw] from P9.out) Tryz.underlying88 rfl (by kernel_rfl) rfl (show Blk _ (w.heap.size + 1) 88 #[.int .i64 (au), .int .i64 (aw)] from Q9.out) Tryz.underlying88 rfl (by kernel_rfl)) rfl ?_
      exact ⟨au, aw, au, aw, true, _, hlu.lm, hlw.lm, hbu, hbw, rfl, I9.out⟩
    · skip
      go_wp2_with fail
      refine wp_told (fun W => GI B g a n c z w W ∧ Blk W w.heap.size 88 #[.int .i64 0, .int .i64 0] ∧ Blk W (w.heap.size + 1) 88 #[.int .i64 0, .int .i64 0] ∧ Blk W w2.heap.size 88 #[.int .i64 au, .int .i64 aw] ∧ Blk W (w2.heap.size + 1) 88 #[.int .i64 (au), .int .i64 (aw)])
        ⟨((((I5.out.set (by omega) _ _).set (by omega) _ _).set (by omega) _ _).set (by omega) _ _), ((((P5.out.skip (by show w.heap.size ≠ w2.heap.size + 1; omega) _).skip (by show w.heap.size ≠ w2.heap.size + 1; omega) _).skip (by show w.heap.size ≠ w2.heap.size + 1; omega) _).skip (by show w.heap.size ≠ w2.heap.size + 1; omega) _), ((((Q5.out.skip (by show w.heap.size + 1 ≠ w2.heap.size + 1; omega) _).skip (by show w.heap.size + 1 ≠ w2.heap.size + 1; omega) _).skip (by show w.heap.size + 1 ≠ w2.heap.size + 1; omega) _).skip (by show w.heap.size + 1 ≠ w2.heap.size + 1; omega) _), ((((A5.out.skip (by show w2.heap.size ≠ w2.heap.size + 1; omega) _).skip (by show w2.heap.size ≠ w2.heap.size + 1; omega) _).skip (by show w2.heap.size ≠ w2.heap.size + 1; omega) _).skip (by show w2.heap.size ≠ w2.heap.size + 1; omega) _), ((((B5.out.put 0 _).put 1 _).put 0 _).put 1 _)⟩ ?_
      clear a0 a1 b0 b1 f0 f1 n1 n2 I5 P5 Q5 A5 B5
      rintro W ⟨I6, P6, Q6, A6, B6⟩
      have hbu := hlu.lm
      have hbw := hlw.lm
      have a0 := A6.cell' 0 rfl
      have a1 := A6.cell' 1 rfl
      have b0 := B6.cell' 0 rfl
      have b1 := B6.cell' 1 rfl
      have sz6 := I6.size
      have KFT := Lib.hid (fun W => rfit_any au aw au aw true (by unfold Lo at hlu; omega) (by unfold Lo at hlw; omega) (by unfold Lm at hbu; omega) (by unfold Lm at hbw; omega) W)
      refine wp_region_held_drew (S := fun W => (W.cell? ⟨w2.heap.size, 0, none⟩ = some (.int .i64 au) ∧ W.cell? ⟨w2.heap.size, 1, none⟩ = some (.int .i64 aw)) ∧ W.cell? ⟨w2.heap.size + 1, 0, none⟩ = some (.int .i64 (au)) ∧ W.cell? ⟨w2.heap.size + 1, 1, none⟩ = some (.int .i64 (aw))) (by kernel_rfl) ⟨⟨a0, a1⟩, b0, b1⟩ fun hS0 => ?_
      refine take_first 0 (v := .agg #[.int .i64 au, .int .i64 aw]) rfl (by kernel_rfl) (by kernel_rfl) (by kernel_rfl) (fun _ _ _ h => h) rfl (fun W' hW' => by obtain ⟨⟨q0, q1⟩, q2, q3⟩ := hW'; go_simp) hS0 ?_
      refine take_first 1 (v := .agg #[.int .i64 (au), .int .i64 (aw)]) rfl (by kernel_rfl) (by kernel_rfl) (by kernel_rfl) (fun _ _ _ h => h) rfl (fun W' hW' => by obtain ⟨⟨q0, q1⟩, q2, q3⟩ := hW'; go_simp) hS0 ?_
      refine take_first 2 (v := .bool true) rfl (by kernel_rfl) (by kernel_rfl) (by kernel_rfl) (fun _ _ _ h => h) rfl (fun W' hW' => by go_simp) hS0 ?_
      refine take_first 3 (v := .agg #[.int .i64 au, .int .i64 aw]) rfl (by kernel_rfl) (by kernel_rfl) (by kernel_rfl) (fun _ _ _ h => h) rfl (fun W' hW' => by obtain ⟨⟨q0, q1⟩, q2, q3⟩ := hW'; go_simp) hS0 ?_
      refine take_first 4 (v := .agg #[.int .i64 (au), .int .i64 (aw)]) rfl (by kernel_rfl) (by kernel_rfl) (by kernel_rfl) (fun _ _ _ h => h) rfl (fun W' hW' => by obtain ⟨⟨q0, q1⟩, q2, q3⟩ := hW'; go_simp) hS0 ?_
      refine take_first 5 (v := .bool true) rfl (by kernel_rfl) (by kernel_rfl) (by kernel_rfl) (fun _ _ _ h => h) rfl (fun W' hW' => by go_simp) hS0 ?_
      refine one_next 6 (by kernel_rfl) rfl rfl fun K6 hK6 => ?_
      have HK6 := Lib.hid hK6
      clear hK6
      go_simp
      refine (KFT.out _).mono ?_
      rintro e w7 ⟨rfl, bl7⟩
      have I7 := Lib.hid (I6.drew.below bl7)
      have P7 := P6.drew.below bl7 P6.drew.lt
      have Q7 := Q6.drew.below bl7 Q6.drew.lt
      have A7 := Lib.hid (A6.drew.below bl7 A6.drew.lt)
      have B7 := Lib.hid (B6.drew.below bl7 B6.drew.lt)
      have sz7 := bl7.size
      clear I6 P6 Q6 A6 B6 KFT bl7
      refine HK6.out _ _ ⟨⟨A7.out.cell' 0 rfl, A7.out.cell' 1 rfl⟩, B7.out.cell' 0 rfl, B7.out.cell' 1 rfl⟩ ?_
      clear a0 a1 b0 b1 hS0
      have p0 := P7.cell' 0 rfl
      have p1 := P7.cell' 1 rfl
      have pf0 := P7.frozen 0
      have pf1 := P7.frozen 1
      refine one_next 7 (by kernel_rfl) rfl rfl fun K7 hK7 => ?_
      have HK7 := Lib.hid hK7
      clear hK7
      go_simp
      have P8 := Lib.hid ((P7.put 0 (.int .i64 au)).put 1 (.int .i64 aw))
      have Q8 := ((Q7.skip (p := ⟨w.heap.size, 0, none⟩) (by show w.heap.size + 1 ≠ w.heap.size; omega) (.int .i64 au)).skip (p := ⟨w.heap.size, 1, none⟩) (by show w.heap.size + 1 ≠ w.heap.size; omega) (.int .i64 aw))
      have A8 := Lib.hid ((A7.out.skip (p := ⟨w.heap.size, 0, none⟩) (by show w2.heap.size ≠ w.heap.size; omega) (.int .i64 au)).skip (p := ⟨w.heap.size, 1, none⟩) (by show w2.heap.size ≠ w.heap.size; omega) (.int .i64 aw))
      have B8 := Lib.hid ((B7.out.skip (p := ⟨w.heap.size, 0, none⟩) (by show w2.heap.size + 1 ≠ w.heap.size; omega) (.int .i64 au)).skip (p := ⟨w.heap.size, 1, none⟩) (by show w2.heap.size + 1 ≠ w.heap.size; omega) (.int .i64 aw))
      have I8 := Lib.hid ((I7.out.set (b := w.heap.size) (by omega) 0 (.int .i64 au)).set (b := w.heap.size) (by omega) 1 (.int .i64 aw))
      refine HK7.out _ _ ⟨⟨A8.out.cell' 0 rfl, A8.out.cell' 1 rfl⟩, B8.out.cell' 0 rfl, B8.out.cell' 1 rfl⟩ ?_
      clear p0 p1 pf0 pf1 P7 Q7 A7 B7 I7
      have p0 := Q8.cell' 0 rfl
      have p1 := Q8.cell' 1 rfl
      have pf0 := Q8.frozen 0
      have pf1 := Q8.frozen 1
      refine one_next 8 (by kernel_rfl) rfl rfl fun K8 hK8 => ?_
      have HK8 := Lib.hid hK8
      clear hK8
      go_simp
      have Q9 := Lib.hid ((Q8.put 0 (.int .i64 (au))).put 1 (.int .i64 (aw)))
      have P9 := Lib.hid ((P8.out.skip (p := ⟨w.heap.size + 1, 0, none⟩) (by show w.heap.size ≠ w.heap.size + 1; omega) (.int .i64 (au))).skip (p := ⟨w.heap.size + 1, 1, none⟩) (by show w.heap.size ≠ w.heap.size + 1; omega) (.int .i64 (aw)))
      have A9 := Lib.hid ((A8.out.skip (p := ⟨w.heap.size + 1, 0, none⟩) (by show w2.heap.size ≠ w.heap.size + 1; omega) (.int .i64 (au))).skip (p := ⟨w.heap.size + 1, 1, none⟩) (by show w2.heap.size ≠ w.heap.size + 1; omega) (.int .i64 (aw)))
      have B9 := Lib.hid ((B8.out.skip (p := ⟨w.heap.size + 1, 0, none⟩) (by show w2.heap.size + 1 ≠ w.heap.size + 1; omega) (.int .i64 (au))).skip (p := ⟨w.heap.size + 1, 1, none⟩) (by show w2.heap.size + 1 ≠ w.heap.size + 1; omega) (.int .i64 (aw)))
      have I9 := Lib.hid ((I8.out.set (b := w.heap.size + 1) (by omega) 0 (.int .i64 (au))).set (b := w.heap.size + 1) (by omega) 1 (.int .i64 (aw)))
      refine HK8.out _ _ ⟨⟨A9.out.cell' 0 rfl, A9.out.cell' 1 rfl⟩, B9.out.cell' 0 rfl, B9.out.cell' 1 rfl⟩ ?_
      clear p0 p1 pf0 pf1 P8 Q8 A8 B8 I8
      refine one_next 9 (by kernel_rfl) rfl rfl fun K9 hK9 => ?_
      have HK9 := Lib.hid hK9
      clear hK9
      go_simp
      refine HK9.out _ _ ⟨⟨A9.out.cell' 0 rfl, A9.out.cell' 1 rfl⟩, B9.out.cell' 0 rfl, B9.out.cell' 1 rfl⟩ ?_
      refine one_next 10 (by kernel_rfl) rfl rfl fun K10 hK10 => ?_
      have HK10 := Lib.hid hK10
      clear hK10
      go_simp
      refine HK10.out _ _ ⟨⟨A9.out.cell' 0 rfl, A9.out.cell' 1 rfl⟩, B9.out.cell' 0 rfl, B9.out.cell' 1 rfl⟩ ?_
      refine wpAnyH_done (by kernel_rfl) ?_ _
      clear HK6 HK7 HK8 HK9 HK10 A9 B9
      go_simp
      go_wp2_with fail
      refine bodyPost_ret (results_cctt rfl rfl (show Blk _ w.heap.size 88 #[.int .i64 au, .int .i64 aw] from P9.out) Tryz.underlying88 rfl (by kernel_rfl) rfl (show Blk _ (w.heap.size + 1) 88 #[.int .i64 (au), .int .i64 (aw)] from Q9.out) Tryz.underlying88 rfl (by kernel_rfl)) rfl ?_
      exact ⟨au, aw, au, aw, true, _, hlu.lm, hlw.lm, hbu, hbw, rfl, I9.out⟩
    · skip
      go_wp2_with fail
      refine wp_told (fun W => GI B g a n c z w W ∧ Blk W w.heap.size 88 #[.int .i64 0, .int .i64 0] ∧ Blk W (w.heap.size + 1) 88 #[.int .i64 0, .int .i64 0] ∧ Blk W w2.heap.size 88 #[.int .i64 au, .int .i64 aw] ∧ Blk W (w2.heap.size + 1) 88 #[.int .i64 (au), .int .i64 (aw)])
        ⟨((((I5.out.set (by omega) _ _).set (by omega) _ _).set (by omega) _ _).set (by omega) _ _), ((((P5.out.skip (by show w.heap.size ≠ w2.heap.size + 1; omega) _).skip (by show w.heap.size ≠ w2.heap.size + 1; omega) _).skip (by show w.heap.size ≠ w2.heap.size + 1; omega) _).skip (by show w.heap.size ≠ w2.heap.size + 1; omega) _), ((((Q5.out.skip (by show w.heap.size + 1 ≠ w2.heap.size + 1; omega) _).skip (by show w.heap.size + 1 ≠ w2.heap.size + 1; omega) _).skip (by show w.heap.size + 1 ≠ w2.heap.size + 1; omega) _).skip (by show w.heap.size + 1 ≠ w2.heap.size + 1; omega) _), ((((A5.out.skip (by show w2.heap.size ≠ w2.heap.size + 1; omega) _).skip (by show w2.heap.size ≠ w2.heap.size + 1; omega) _).skip (by show w2.heap.size ≠ w2.heap.size + 1; omega) _).skip (by show w2.heap.size ≠ w2.heap.size + 1; omega) _), ((((B5.out.put 0 _).put 1 _).put 0 _).put 1 _)⟩ ?_
      clear a0 a1 b0 b1 f0 f1 n1 n2 I5 P5 Q5 A5 B5
      rintro W ⟨I6, P6, Q6, A6, B6⟩
      have hbu := hlu.lm
      have hbw := hlw.lm
      have a0 := A6.cell' 0 rfl
      have a1 := A6.cell' 1 rfl
      have b0 := B6.cell' 0 rfl
      have b1 := B6.cell' 1 rfl
      have sz6 := I6.size
      have KFT := Lib.hid (fun W => rfit_any au aw au aw true (by unfold Lo at hlu; omega) (by unfold Lo at hlw; omega) (by unfold Lm at hbu; omega) (by unfold Lm at hbw; omega) W)
      refine wp_region_held_drew (S := fun W => (W.cell? ⟨w2.heap.size, 0, none⟩ = some (.int .i64 au) ∧ W.cell? ⟨w2.heap.size, 1, none⟩ = some (.int .i64 aw)) ∧ W.cell? ⟨w2.heap.size + 1, 0, none⟩ = some (.int .i64 (au)) ∧ W.cell? ⟨w2.heap.size + 1, 1, none⟩ = some (.int .i64 (aw))) (by kernel_rfl) ⟨⟨a0, a1⟩, b0, b1⟩ fun hS0 => ?_
      refine take_first 0 (v := .agg #[.int .i64 au, .int .i64 aw]) rfl (by kernel_rfl) (by kernel_rfl) (by kernel_rfl) (fun _ _ _ h => h) rfl (fun W' hW' => by obtain ⟨⟨q0, q1⟩, q2, q3⟩ := hW'; go_simp) hS0 ?_
      refine take_first 1 (v := .agg #[.int .i64 (au), .int .i64 (aw)]) rfl (by kernel_rfl) (by kernel_rfl) (by kernel_rfl) (fun _ _ _ h => h) rfl (fun W' hW' => by obtain ⟨⟨q0, q1⟩, q2, q3⟩ := hW'; go_simp) hS0 ?_
      refine take_first 2 (v := .bool true) rfl (by kernel_rfl) (by kernel_rfl) (by kernel_rfl) (fun _ _ _ h => h) rfl (fun W' hW' => by go_simp) hS0 ?_
      refine take_first 3 (v := .agg #[.int .i64 au, .int .i64 aw]) rfl (by kernel_rfl) (by kernel_rfl) (by kernel_rfl) (fun _ _ _ h => h) rfl (fun W' hW' => by obtain ⟨⟨q0, q1⟩, q2, q3⟩ := hW'; go_simp) hS0 ?_
      refine take_first 4 (v := .agg #[.int .i64 (au), .int .i64 (aw)]) rfl (by kernel_rfl) (by kernel_rfl) (by kernel_rfl) (fun _ _ _ h => h) rfl (fun W' hW' => by obtain ⟨⟨q0, q1⟩, q2, q3⟩ := hW'; go_simp) hS0 ?_
      refine take_first 5 (v := .bool true) rfl (by kernel_rfl) (by kernel_rfl) (by kernel_rfl) (fun _ _ _ h => h) rfl (fun W' hW' => by go_simp) hS0 ?_
      refine one_next 6 (by kernel_rfl) rfl rfl fun K6 hK6 => ?_
      have HK6 := Lib.hid hK6
      clear hK6
      go_simp
      refine (KFT.out _).mono ?_
      rintro e w7 ⟨rfl, bl7⟩
      have I7 := Lib.hid (I6.drew.below bl7)
      have P7 := P6.drew.below bl7 P6.drew.lt
      have Q7 := Q6.drew.below bl7 Q6.drew.lt
      have A7 := Lib.hid (A6.drew.below bl7 A6.drew.lt)
      have B7 := Lib.hid (B6.drew.below bl7 B6.drew.lt)
      have sz7 := bl7.size
      clear I6 P6 Q6 A6 B6 KFT bl7
      refine HK6.out _ _ ⟨⟨A7.out.cell' 0 rfl, A7.out.cell' 1 rfl⟩, B7.out.cell' 0 rfl, B7.out.cell' 1 rfl⟩ ?_
      clear a0 a1 b0 b1 hS0
      have p0 := P7.cell' 0 rfl
      have p1 := P7.cell' 1 rfl
      have pf0 := P7.frozen 0
      have pf1 := P7.frozen 1
      refine one_next 7 (by kernel_rfl) rfl rfl fun K7 hK7 => ?_
      have HK7 := Lib.hid hK7
      clear hK7
      go_simp
      have P8 := Lib.hid ((P7.put 0 (.int .i64 au)).put 1 (.int .i64 aw))
      have Q8 := ((Q7.skip (p := ⟨w.heap.size, 0, none⟩) (by show w.heap.size + 1 ≠ w.heap.size; omega) (.int .i64 au)).skip (p := ⟨w.heap.size, 1, none⟩) (by show w.heap.size + 1 ≠ w.heap.size; omega) (.int .i64 aw))
      have A8 := Lib.hid ((A7.out.skip (p := ⟨w.heap.size, 0, none⟩) (by show w2.heap.size ≠ w.heap.size; omega) (.int .i64 au)).skip (p := ⟨w.heap.size, 1, none⟩) (by show w2.heap.size ≠ w.heap.size; omega) (.int .i64 aw))
      have B8 := Lib.hid ((B7.out.skip (p := ⟨w.heap.size, 0, none⟩) (by show w2.heap.size + 1 ≠ w.heap.size; omega) (.int .i64 au)).skip (p := ⟨w.heap.size, 1, none⟩) (by show w2.heap.size + 1 ≠ w.heap.size; omega) (.int .i64 aw))
      have I8 := Lib.hid ((I7.out.set (b := w.heap.size) (by omega) 0 (.int .i64 au)).set (b := w.heap.size) (by omega) 1 (.int .i64 aw))
      refine HK7.out _ _ ⟨⟨A8.out.cell' 0 rfl, A8.out.cell' 1 rfl⟩, B8.out.cell' 0 rfl, B8.out.cell' 1 rfl⟩ ?_
      clear p0 p1 pf0 pf1 P7 Q7 A7 B7 I7
      have p0 := Q8.cell' 0 rfl
      have p1 := Q8.cell' 1 rfl
      have pf0 := Q8.frozen 0
      have pf1 := Q8.frozen 1
      refine one_next 8 (by kernel_rfl) rfl rfl fun K8 hK8 => ?_
      have HK8 := Lib.hid hK8
      clear hK8
      go_simp
      have Q9 := Lib.hid ((Q8.put 0 (.int .i64 (au))).put 1 (.int .i64 (aw)))
      have P9 := Lib.hid ((P8.out.skip (p := ⟨w.heap.size + 1, 0, none⟩) (by show w.heap.size ≠ w.heap.size + 1; omega) (.int .i64 (au))).skip (p := ⟨w.heap.size + 1, 1, none⟩) (by show w.heap.size ≠ w.heap.size + 1; omega) (.int .i64 (aw)))
      have A9 := Lib.hid ((A8.out.skip (p := ⟨w.heap.size + 1, 0, none⟩) (by show w2.heap.size ≠ w.heap.size + 1; omega) (.int .i64 (au))).skip (p := ⟨w.heap.size + 1, 1, none⟩) (by show w2.heap.size ≠ w.heap.size + 1; omega) (.int .i64 (aw)))
      have B9 := Lib.hid ((B8.out.skip (p := ⟨w.heap.size + 1, 0, none⟩) (by show w2.heap.size + 1 ≠ w.heap.size + 1; omega) (.int .i64 (au))).skip (p := ⟨w.heap.size + 1, 1, none⟩) (by show w2.heap.size + 1 ≠ w.heap.size + 1; omega) (.int .i64 (aw)))
      have I9 := Lib.hid ((I8.out.set (b := w.heap.size + 1) (by omega) 0 (.int .i64 (au))).set (b := w.heap.size + 1) (by omega) 1 (.int .i64 (aw)))
      refine HK8.out _ _ ⟨⟨A9.out.cell' 0 rfl, A9.out.cell' 1 rfl⟩, B9.out.cell' 0 rfl, B9.out.cell' 1 rfl⟩ ?_
      clear p0 p1 pf0 pf1 P8 Q8 A8 B8 I8
      refine one_next 9 (by kernel_rfl) rfl rfl fun K9 hK9 => ?_
      have HK9 := Lib.hid hK9
      clear hK9
      go_simp
      refine HK9.out _ _ ⟨⟨A9.out.cell' 0 rfl, A9.out.cell' 1 rfl⟩, B9.out.cell' 0 rfl, B9.out.cell' 1 rfl⟩ ?_
      refine one_next 10 (by kernel_rfl) rfl rfl fun K10 hK10 => ?_
      have HK10 := Lib.hid hK10
      clear hK10
      go_simp
      refine HK10.out _ _ ⟨⟨A9.out.cell' 0 rfl, A9.out.cell' 1 rfl⟩, B9.out.cell' 0 rfl, B9.out.cell' 1 rfl⟩ ?_
      refine wpAnyH_done (by kernel_rfl) ?_ _
      clear HK6 HK7 HK8 HK9 HK10 A9 B9
      go_simp
      go_wp2_with fail
      refine bodyPost_ret (results_cctt rfl rfl (show Blk _ w.heap.size 88 #[.int .i64 au, .int .i64 aw] from P9.out) Tryz.underlying88 rfl (by kernel_rfl) rfl (show Blk _ (w.heap.size + 1) 88 #[.int .i64 (au), .int .i64 (aw)] from Q9.out) Tryz.underlying88 rfl (by kernel_rfl)) rfl ?_
      exact ⟨au, aw, au, aw, true, _, hlu.lm, hlw.lm, hbu, hbw, rfl, I9.out⟩
    · skip
      go_wp2_with fail
      refine wp_told (fun W => GI B g a n c z w W ∧ Blk W w.heap.size 88 #[.int .i64 0, .int .i64 0] ∧ Blk W (w.heap.size + 1) 88 #[.int .i64 0, .int .i64 0] ∧ Blk W w2.heap.size 88 #[.int .i64 au, .int .i64 aw] ∧ Blk W (w2.heap.size + 1) 88 #[.int .i64 (au), .int .i64 (aw)])
        ⟨((((I5.out.set (by omega) _ _).set (by omega) _ _).set (by omega) _ _).set (by omega) _ _), ((((P5.out.skip (by show w.heap.size ≠ w2.heap.size + 1; omega) _).skip (by show w.heap.size ≠ w2.heap.size + 1; omega) _).skip (by show w.heap.size ≠ w2.heap.size + 1; omega) _).skip (by show w.heap.size ≠ w2.heap.size + 1; omega) _), ((((Q5.out.skip (by show w.heap.size + 1 ≠ w2.heap.size + 1; omega) _).skip (by show w.heap.size + 1 ≠ w2.heap.size + 1; omega) _).skip (by show w.heap.size + 1 ≠ w2.heap.size + 1; omega) _).skip (by show w.heap.size + 1 ≠ w2.heap.size + 1; omega) _), ((((A5.out.skip (by show w2.heap.size ≠ w2.heap.size + 1; omega) _).skip (by show w2.heap.size ≠ w2.heap.size + 1; omega) _).skip (by show w2.heap.size ≠ w2.heap.size + 1; omega) _).skip (by show w2.heap.size ≠ w2.heap.size + 1; omega) _), ((((B5.out.put 0 _).put 1 _).put 0 _).put 1 _)⟩ ?_
      clear a0 a1 b0 b1 f0 f1 n1 n2 I5 P5 Q5 A5 B5
      rintro W ⟨I6, P6, Q6, A6, B6⟩
      have hbu := hlu.lm
      have hbw := hlw.lm
      have a0 := A6.cell' 0 rfl
      have a1 := A6.cell' 1 rfl
      have b0 := B6.cell' 0 rfl
      have b1 := B6.cell' 1 rfl
      have sz6 := I6.size
      have KFT := Lib.hid (fun W => rfit_any au aw au aw true (by unfold Lo at hlu; omega) (by unfold Lo at hlw; omega) (by unfold Lm at hbu; omega) (by unfold Lm at hbw; omega) W)
      refine wp_region_held_drew (S := fun W => (W.cell? ⟨w2.heap.size, 0, none⟩ = some (.int .i64 au) ∧ W.cell? ⟨w2.heap.size, 1, none⟩ = some (.int .i64 aw)) ∧ W.cell? ⟨w2.heap.size + 1, 0, none⟩ = some (.int .i64 (au)) ∧ W.cell? ⟨w2.heap.size + 1, 1, none⟩ = some (.int .i64 (aw))) (by kernel_rfl) ⟨⟨a0, a1⟩, b0, b1⟩ fun hS0 => ?_
      refine take_first 0 (v := .agg #[.int .i64 au, .int .i64 aw]) rfl (by kernel_rfl) (by kernel_rfl) (by kernel_rfl) (fun _ _ _ h => h) rfl (fun W' hW' => by obtain ⟨⟨q0, q1⟩, q2, q3⟩ := hW'; go_simp) hS0 ?_
      refine take_first 1 (v := .agg #[.int .i64 (au), .int .i64 (aw)]) rfl (by kernel_rfl) (by kernel_rfl) (by kernel_rfl) (fun _ _ _ h => h) rfl (fun W' hW' => by obtain ⟨⟨q0, q1⟩, q2, q3⟩ := hW'; go_simp) hS0 ?_
      refine take_first 2 (v := .bool true) rfl (by kernel_rfl) (by kernel_rfl) (by kernel_rfl) (fun _ _ _ h => h) rfl (fun W' hW' => by go_simp) hS0 ?_
      refine take_first 3 (v := .agg #[.int .i64 au, .int .i64 aw]) rfl (by kernel_rfl) (by kernel_rfl) (by kernel_rfl) (fun _ _ _ h => h) rfl (fun W' hW' => by obtain ⟨⟨q0, q1⟩, q2, q3⟩ := hW'; go_simp) hS0 ?_
      refine take_first 4 (v := .agg #[.int .i64 (au), .int .i64 (aw)]) rfl (by kernel_rfl) (by kernel_rfl) (by kernel_rfl) (fun _ _ _ h => h) rfl (fun W' hW' => by obtain ⟨⟨q0, q1⟩, q2, q3⟩ := hW'; go_simp) hS0 ?_
      refine take_first 5 (v := .bool true) rfl (by kernel_rfl) (by kernel_rfl) (by kernel_rfl) (fun _ _ _ h => h) rfl (fun W' hW' => by go_simp) hS0 ?_
      refine one_next 6 (by kernel_rfl) rfl rfl fun K6 hK6 => ?_
      have HK6 := Lib.hid hK6
      clear hK6
      go_simp
      refine (KFT.out _).mono ?_
      rintro e w7 ⟨rfl, bl7⟩
      have I7 := Lib.hid (I6.drew.below bl7)
      have P7 := P6.drew.below bl7 P6.drew.lt
      have Q7 := Q6.drew.below bl7 Q6.drew.lt
      have A7 := Lib.hid (A6.drew.below bl7 A6.drew.lt)
      have B7 := Lib.hid (B6.drew.below bl7 B6.drew.lt)
      have sz7 := bl7.size
      clear I6 P6 Q6 A6 B6 KFT bl7
      refine HK6.out _ _ ⟨⟨A7.out.cell' 0 rfl, A7.out.cell' 1 rfl⟩, B7.out.cell' 0 rfl, B7.out.cell' 1 rfl⟩ ?_
      clear a0 a1 b0 b1 hS0
      have p0 := P7.cell' 0 rfl
      have p1 := P7.cell' 1 rfl
      have pf0 := P7.frozen 0
      have pf1 := P7.frozen 1
      refine one_next 7 (by kernel_rfl) rfl rfl fun K7 hK7 => ?_
      have HK7 := Lib.hid hK7
      clear hK7
      go_simp
      have P8 := Lib.hid ((P7.put 0 (.int .i64 au)).put 1 (.int .i64 aw))
      have Q8 := ((Q7.skip (p := ⟨w.heap.size, 0, none⟩) (by show w.heap.size + 1 ≠ w.heap.size; omega) (.int .i64 au)).skip (p := ⟨w.heap.size, 1, none⟩) (by show w.heap.size + 1 ≠ w.heap.size; omega) (.int .i64 aw))
      have A8 := Lib.hid ((A7.out.skip (p := ⟨w.heap.size, 0, none⟩) (by show w2.heap.size ≠ w.heap.size; omega) (.int .i64 au)).skip (p := ⟨w.heap.size, 1, none⟩) (by show w2.heap.size ≠ w.heap.size; omega) (.int .i64 aw))
      have B8 := Lib.hid ((B7.out.skip (p := ⟨w.heap.size, 0, none⟩) (by show w2.heap.size + 1 ≠ w.heap.size; omega) (.int .i64 au)).skip (p := ⟨w.heap.size, 1, none⟩) (by show w2.heap.size + 1 ≠ w.heap.size; omega) (.int .i64 aw))
      have I8 := Lib.hid ((I7.out.set (b := w.heap.size) (by omega) 0 (.int .i64 au)).set (b := w.heap.size) (by omega) 1 (.int .i64 aw))
      refine HK7.out _ _ ⟨⟨A8.out.cell' 0 rfl, A8.out.cell' 1 rfl⟩, B8.out.cell' 0 rfl, B8.out.cell' 1 rfl⟩ ?_
      clear p0 p1 pf0 pf1 P7 Q7 A7 B7 I7
      have p0 := Q8.cell' 0 rfl
      have p1 := Q8.cell' 1 rfl
      have pf0 := Q8.frozen 0
      have pf1 := Q8.frozen 1
      refine one_next 8 (by kernel_rfl) rfl rfl fun K8 hK8 => ?_
      have HK8 := Lib.hid hK8
      clear hK8
      go_simp
      have Q9 := Lib.hid ((Q8.put 0 (.int .i64 (au))).put 1 (.int .i64 (aw)))
      have P9 := Lib.hid ((P8.out.skip (p := ⟨w.heap.size + 1, 0, none⟩) (by show w.heap.size ≠ w.heap.size + 1; omega) (.int .i64 (au))).skip (p := ⟨w.heap.size + 1, 1, none⟩) (by show w.heap.size ≠ w.heap.size + 1; omega) (.int .i64 (aw)))
      have A9 := Lib.hid ((A8.out.skip (p := ⟨w.heap.size + 1, 0, none⟩) (by show w2.heap.size ≠ w.heap.size + 1; omega) (.int .i64 (au))).skip (p := ⟨w.heap.size + 1, 1, none⟩) (by show w2.heap.size ≠ w.heap.size + 1; omega) (.int .i64 (aw)))
      have B9 := Lib.hid ((B8.out.skip (p := ⟨w.heap.size + 1, 0, none⟩) (by show w2.heap.size + 1 ≠ w.heap.size + 1; omega) (.int .i64 (au))).skip (p := ⟨w.heap.size + 1, 1, none⟩) (by show w2.heap.size + 1 ≠ w.heap.size + 1; omega) (.int .i64 (aw)))
      have I9 := Lib.hid ((I8.out.set (b := w.heap.size + 1) (by omega) 0 (.int .i64 (au))).set (b := w.heap.size + 1) (by omega) 1 (.int .i64 (aw)))
      refine HK8.out _ _ ⟨⟨A9.out.cell' 0 rfl, A9.out.cell' 1 rfl⟩, B9.out.cell' 0 rfl, B9.out.cell' 1 rfl⟩ ?_
      clear p0 p1 pf0 pf1 P8 Q8 A8 B8 I8
      refine one_next 9 (by kernel_rfl) rfl rfl fun K9 hK9 => ?_
      have HK9 := Lib.hid hK9
      clear hK9
      go_simp
      refine HK9.out _ _ ⟨⟨A9.out.cell' 0 rfl, A9.out.cell' 1 rfl⟩, B9.out.cell' 0 rfl, B9.out.cell' 1 rfl⟩ ?_
      refine one_next 10 (by kernel_rfl) rfl rfl fun K10 hK10 => ?_
      have HK10 := Lib.hid hK10
      clear hK10
      go_simp
      refine HK10.out _ _ ⟨⟨A9.out.cell' 0 rfl, A9.out.cell' 1 rfl⟩, B9.out.cell' 0 rfl, B9.out.cell' 1 rfl⟩ ?_
      refine wpAnyH_done (by kernel_rfl) ?_ _
      clear HK6 HK7 HK8 HK9 HK10 A9 B9
      go_simp
      go_wp2_with fail
      refine bodyPost_ret (results_cctt rfl rfl (show Blk _ w.heap.size 88 #[.int .i64 au, .int .i64 aw] from P9.out) Tryz.underlying88 rfl (by kernel_rfl) rfl (show Blk _ (w.heap.size + 1) 88 #[.int .i64 (au), .int .i64 (aw)] from Q9.out) Tryz.underlying88 rfl (by kernel_rfl)) rfl ?_
      exact ⟨au, aw, au, aw, true, _, hlu.lm, hlw.lm, hbu, hbw, rfl, I9.out⟩
end Go.Proofs.YtefdjdipbnnoaaaGreatDoor

/-
  cncstage.Arc: any tape.
-/
import Derived.Test.YtefdjdipbnnoaaaGreatDoorStageB17
import Derived.Test.YtefdjdipbnnoaaaGreatDoorBase17
namespace Go.Proofs.YtefdjdipbnnoaaaGreatDoor
open Go Go.RowKit
set_option linter.unusedVariables false
set_option linter.unusedSimpArgs false

theorem at_some (p u v h : Int) (w : World) : Calls Tryz.prog 70 #[.int .i64 p, .agg #[.int .i64 u, .int .i64 v], .int .i64 h] w fun e w' => ∃ x y z : Int, e = .returned (.agg #[.int .i64 x, .int .i64 y, .int .i64 z]) ∧ Below w.heap.size w w' :=
  (rat_any p u v h w).mono fun e w' h => ⟨_, _, _, h.1, h.2⟩
theorem addpt_some (x y x2 y2 : Int) (w : World) : Calls Tryz.prog 86 #[.agg #[.int .i64 x, .int .i64 y], .agg #[.int .i64 x2, .int .i64 y2]] w fun e w' => ∃ u v : Int, e = .returned (.agg #[.int .i64 u, .int .i64 v]) ∧ Below w.heap.size w w' :=
  (raddpt_any x y x2 y2 w).mono fun e w' h => ⟨_, _, h.1, h.2⟩
theorem wo_storeI {a : Act} {w : World} {K : Act → World → Prop} {Q : Exit → Act → World → Prop} {dst : Option Tmp} {ty0 : TypeId} {pos : String} {after : Array Edge} {gd : Option (Nat × Bool)} (x y : Operand) (g : Nat) (i o : It) (hx : a.eval x = .pointer (some ⟨g, 0, none⟩)) (hy : a.eval y = .agg (itA i)) (hI : ItAt w g o)
    (h : K (a.put dst undef) (w.setRow g (itA i))) : Oper.wp Tryz.prog ⟨dst, .store 25 x y, ty0, pos, after, gd⟩ a w K Q :=
  wp_store_row 25 x y rfl g (itA i) hx hy 25 (itA o) hI (by kernel_rfl) rfl (itA_one i) h
def ItemPost (B g : Nat) (a : Option Addr) (n c : Nat) (z : Nat → Int) (R : It → Prop) (w : World) (e : Ending) (w' : World) : Prop :=
  ∃ i : It, R i ∧ e = .returned (.agg (itA i)) ∧ GI B g a n c z w w'
set_option maxRecDepth 100000 in
set_option maxHeartbeats 4000000 in
theorem sarc_any (w : World) (B g : Nat) (a : Option Addr) (n c : Nat) (z : Nat → Int) (hs : ∃ k, Src w B g a n c z k) :
    Calls Tryz.prog 47 #[.pointer (some ⟨g, 0, none⟩)] w (ItemPost B g a n c z (fun i => i.kind = 3) w) := by
  have J0 := Lib.hid ((GI.refl hs).alloc (.cells (itA zeroI) 25))
  have R0 := Lib.hid (ItAt.new w zeroI)
  have hgl := (GI.refl hs).lt
  clear hs
  go_enter Tryz.func47, Tryz.ntmps47
  go_wp2_with ((with_reducible refine go_allocI ?_))
  refine (range_any _ B g a n c z 17 19 J0.out.src (by omega) (by omega) (by omega)).mono ?_
  rintro e w1 ⟨plane, k1, hl1, hh1, rfl, s1, g1⟩
  have J1 := Lib.hid (J0.out.next s1 g1)
  have R1 := Lib.hid (Blk.grown R0.out g1 (by intro e; injection e; omega))
  have sz1 := g1.size
  simp at sz1
  clear s1 g1 J0 R0
  go_wp2_with fail
  refine (sspokes_any w1 B g a n c z J1.out.src).mono ?_
  rintro e w2 ⟨au, aw, bu, bw, full, ok, hau, haw, hbu, hbw, rfl, G2⟩
  have J2 := Lib.hid (J1.out.trans G2)
  have R2 := Lib.hid (G2.blk R1.out (by omega))
  have sz2 := G2.size
  clear G2 J1 R1
  have hgs : w.heap.size + 1 ≤ w2.heap.size := by omega
  cases ok
  · go_wp2_with fail
    refine calls_told (fun W => ∃ au aw bu bw : Int, W.heap.size = w2.heap.size + 2 ∧ GI B g a n c z w W ∧ ItAt W w.heap.size zeroI ∧ Blk W w2.heap.size 88 #[.int .i64 au, .int .i64 aw] ∧ Blk W (w2.heap.size + 1) 88 #[.int .i64 bu, .int .i64 bw])
      ⟨50, 0, 0, 50, by simp, (J2.out.alloc _).alloc _, (R2.out.alloc _).alloc _, (Blk.new w2 _ _).alloc _, blk_new1 w2 _ _ _⟩ ?_
    clear hau haw hbu hbw
    rintro W3 ⟨au, aw, bu, bw, z3, I3, R3, A3, B3⟩
    clear J2 R2
    refine (spt_any W3 B g a n c z 30000 I3.src (by omega) (by omega)).mono ?_
    rintro e w3 ⟨cu, cw, hcu, hcw, rfl, G3⟩
    have I4 := Lib.hid (I3.trans G3)
    have R4 := Lib.hid (G3.blk R3 (by omega))
    have A4 := Lib.hid (G3.blk A3 (by omega))
    have B4 := Lib.hid (G3.blk B3 (by omega))
    have sz3 := G3.size
    clear G3 I3 R3 A3 B3
    go_wp2_with fail
    refine calls_told (fun W => W.heap.size = w3.heap.size + 1 ∧ GI B g a n c z w W ∧ ItAt W w.heap.size zeroI ∧ Blk W w2.heap.size 88 #[.int .i64 au, .int .i64 aw] ∧ Blk W (w2.heap.size + 1) 88 #[.int .i64 bu, .int .i64 bw] ∧ Blk W w3.heap.size 88 #[.int .i64 cu, .int .i64 cw])
      ⟨by simp, I4.out.alloc _, R4.out.alloc _, A4.out.alloc _, B4.out.alloc _, Blk.new w3 _ _⟩ ?_
    clear I4 R4 A4 B4
    rintro W4 ⟨z4, I4, R4, A4, B4, C4⟩
    refine (range_any W4 B g a n c z (-500) 500 I4.src (by omega) (by omega) (by omega)).mono ?_
    rintro e w5 ⟨hh, k5, hl5, hh5, rfl, s5, g5⟩
    have I5 := Lib.hid (I4.next s5 g5)
    have R5 := Lib.hid (Blk.grown R4 g5 (by intro e; injection e; omega))
    have A5 := Lib.hid (A4.grown g5 (by intro e; injection e; omega))
    have B5 := Lib.hid (B4.grown g5 (by intro e; injection e; omega))
    have C5 := Lib.hid (C4.grown g5 (by intro e; injection e; omega))
    have sz5 := g5.size
    clear I4 R4 A4 B4 C4 s5 g5
    go_wp2_with fail
    refine (range_any w5 B g a n c z (-500) 500 I5.out.src (by omega) (by omega) (by omega)).mono ?_
    rintro e w6 ⟨kk, k6, hl6, hh6, rfl, s6, g6⟩
    have I6 := Lib.hid (I5.out.next s6 g6)
    have R6 := Lib.hid (Blk.grown R5.out g6 (by intro e; injection e; omega))
    have A6 := Lib.hid (A5.out.grown g6 (by intro e; injection e; omega))
    have B6 := Lib.hid (B5.out.grown g6 (by intro e; injection e; omega))
    have C6 := Lib.hid (C5.out.grown g6 (by intro e; injection e; omega))
    have sz6 := g6.size
    clear I5 R5 A5 B5 C5 s6 g6
    go_wp2_with fail
    refine (next_any w6 B g a n c z 2 I6.out.src (by omega) (by omega)).mono ?_
    rintro e w7 ⟨r7, k7, hl7, hh7, rfl, s7, g7⟩
    have I7 := I6.out.next s7 g7
    have R7 := Blk.grown R6.out g7 (by intro e; injection e; omega)
    have A7 := A6.out.grown g7 (by intro e; injection e; omega)
    have B7 := B6.out.grown g7 (by intro e; injection e; omega)
    have C7 := C6.out.grown g7 (by intro e; injection e; omega)
    have sz7 := g7.size
    have hw7 : IntKind.i64.wrap (1 - IntKind.i64.wrap (2 * r7)) = 1 - 2 * r7 := by rw [IntKind.wrap_i64, IntKind.wrap_i64]; omega
    have hw7' : IntKind.i64.wrap (1 - 2 * r7) = 1 - 2 * r7 := by rw [IntKind.wrap_i64]; omega
    have hw7'' : IntKind.i64.wrap (2 * r7) = 2 * r7 := by rw [IntKind.wrap_i64]; omega
    clear I6 R6 A6 B6 C6 s7 g7
    have I8 := Lib.hid I7.drew
    have R8 := Lib.hid R7.drew
    have A8 := Lib.hid A7.drew
    have B8 := Lib.hid B7.drew
    have C8 := Lib.hid C7.drew
    clear I7 R7 A7 B7 C7
    go_wp2_with fail
    refine wp_region_held_drew (S := fun W => (W.cell? ⟨w2.heap.size, 0, none⟩ = some (.int .i64 au) ∧ W.cell? ⟨w2.heap.size, 1, none⟩ = some (.int .i64 aw)) ∧ (W.cell? ⟨w2.heap.size + 1, 0, none⟩ = some (.int .i64 bu) ∧ W.cell? ⟨w2.heap.size + 1, 1, none⟩ = some (.int .i64 bw)) ∧ W.cell? ⟨w3.heap.size, 0, none⟩ = some (.int .i64 cu) ∧ W.cell? ⟨w3.heap.size, 1, none⟩ = some (.int .i64 cw)) (by kernel_rfl) ⟨⟨A8.out.cell' 0 rfl, A8.out.cell' 1 rfl⟩, ⟨B8.out.cell' 0 rfl, B8.out.cell' 1 rfl⟩, C8.out.cell' 0 rfl, C8.out.cell' 1 rfl⟩ fun hS0 => ?_
    refine take_first 0 (v := .int .i64 plane) rfl (by kernel_rfl) (by kernel_rfl) (by kernel_rfl) (fun _ _ _ h => h) rfl (fun W' hW' => by go_simp) hS0 ?_
    refine take_first 1 (v := .agg #[.int .i64 cu, .int .i64 cw]) rfl (by kernel_rfl) (by kernel_rfl) (by kernel_rfl) (fun _ _ _ h => h) rfl (fun W' hW' => by obtain ⟨⟨q0, q1⟩, ⟨q2, q3⟩, q4, q5⟩ := hW'; go_simp) hS0 ?_
    refine take_first 2 (v := .agg #[.int .i64 au, .int .i64 aw]) rfl (by kernel_rfl) (by kernel_rfl) (by kernel_rfl) (fun _ _ _ h => h) rfl (fun W' hW' => by obtain ⟨⟨q0, q1⟩, ⟨q2, q3⟩, q4, q5⟩ := hW'; go_simp) hS0 ?_
    refine take_first 4 (v := .int .i64 hh) rfl (by kernel_rfl) (by kernel_rfl) (by kernel_rfl) (fun _ _ _ h => h) rfl (fun W' hW' => by go_simp) hS0 ?_
    refine take_first 6 (v := .int .i64 plane) rfl (by kernel_rfl) (by kernel_rfl) (by kernel_rfl) (fun _ _ _ h => h) rfl (fun W' hW' => by go_simp) hS0 ?_
    refine take_first 7 (v := .agg #[.int .i64 cu, .int .i64 cw]) rfl (by kernel_rfl) (by kernel_rfl) (by kernel_rfl) (fun _ _ _ h => h) rfl (fun W' hW' => by obtain ⟨⟨q0, q1⟩, ⟨q2, q3⟩, q4, q5⟩ := hW'; go_simp) hS0 ?_
    refine take_first 8 (v := .agg #[.int .i64 bu, .int .i64 bw]) rfl (by kernel_rfl) (by kernel_rfl) (by kernel_rfl) (fun _ _ _ h => h) rfl (fun W' hW' => by obtain ⟨⟨q0, q1⟩, ⟨q2, q3⟩, q4, q5⟩ := hW'; go_simp) hS0 ?_
    refine take_first 10 (v := .int .i64 kk) rfl (by kernel_rfl) (by kernel_rfl) (by kernel_rfl) (fun _ _ _ h => h) rfl (fun W' hW' => by go_simp) hS0 ?_
    refine take_first 12 (v := .int .i64 plane) rfl (by kernel_rfl) (by kernel_rfl) (by kernel_rfl) (fun _ _ _ h => h) rfl (fun W' hW' => by go_simp) hS0 ?_
    refine take_first 13 (v := .int .i64 plane) rfl (by kernel_rfl) (by kernel_rfl) (by kernel_rfl) (fun _ _ _ h => h) rfl (fun W' hW' => by go_simp) hS0 ?_
    refine take_first 14 (v := .agg #[.int .i64 cu, .int .i64 cw]) rfl (by kernel_rfl) (by kernel_rfl) (by kernel_rfl) (fun _ _ _ h => h) rfl (fun W' hW' => by obtain ⟨⟨q0, q1⟩, ⟨q2, q3⟩, q4, q5⟩ := hW'; go_simp) hS0 ?_
    refine take_first 15 (v := .int .i64 hh) rfl (by kernel_rfl) (by kernel_rfl) (by kernel_rfl) (fun _ _ _ h => h) rfl (fun W' hW' => by go_simp) hS0 ?_
    refine take_first 17 (v := .int .i64 (1 - 2 * r7)) rfl (by kernel_rfl) (by kernel_rfl) (by kernel_rfl) (fun _ _ _ h => h) rfl (fun W' hW' => by go_simp) hS0 ?_
    refine take_first 18 (v := .bool (false)) rfl (by kernel_rfl) (by kernel_rfl) (by kernel_rfl) (fun _ _ _ h => h) rfl (fun W' hW' => by go_simp) hS0 ?_
    refine take_first 19 (v := .pointer (some ⟨g, 0, none⟩)) rfl (by kernel_rfl) (by kernel_rfl) (by kernel_rfl) (fun _ _ _ h => h) rfl (fun W' hW' => by go_simp) hS0 ?_
    refine take_first 21 (v := .pointer (some ⟨g, 0, none⟩)) rfl (by kernel_rfl) (by kernel_rfl) (by kernel_rfl) (fun _ _ _ h => h) rfl (fun W' hW' => by go_simp) hS0 ?_
    refine take_first 24 (v := .pointer (some ⟨g, 0, none⟩)) rfl (by kernel_rfl) (by kernel_rfl) (by kernel_rfl) (fun _ _ _ h => h) rfl (fun W' hW' => by go_simp) hS0 ?_
    refine take_first 26 (v := .pointer (some ⟨g, 0, none⟩)) rfl (by kernel_rfl) (by kernel_rfl) (by kernel_rfl) (fun _ _ _ h => h) rfl (fun W' hW' => by go_simp) hS0 ?_
    clear hw7 hw7' hw7''
    refine one_next 3 (by kernel_rfl) rfl rfl fun K3 hK3 => ?_
    have HK3 := Lib.hid hK3
    clear hK3
    go_simp
    refine (addpt_some _ _ _ _ _).mono ?_
    rintro e wa ⟨p1, p2, rfl, bb⟩
    have I9 := Lib.hid (I8.out.below bb)
    have A9 := Lib.hid (A8.out.below bb A8.out.lt)
    have B9 := Lib.hid (B8.out.below bb B8.out.lt)
    have C9 := Lib.hid (C8.out.below bb C8.out.lt)
    have R9 := Lib.hid (R8.out.below bb R8.out.lt)
    have szz := bb.size
    clear I8 A8 B8 C8 R8 bb
    refine HK3.out _ _ ⟨⟨A9.out.cell' 0 rfl, A9.out.cell' 1 rfl⟩, ⟨B9.out.cell' 0 rfl, B9.out.cell' 1 rfl⟩, C9.out.cell' 0 rfl, C9.out.cell' 1 rfl⟩ ?_
    clear HK3
    clear hS0
    refine one_next 5 (by kernel_rfl) rfl rfl fun K5 hK5 => ?_
    have HK5 := Lib.hid hK5
    clear hK5
    go_simp
    refine (at_some _ _ _ _ _).mono ?_
    rintro e wb ⟨x1, y1, z1, rfl, bb⟩
    have I10 := Lib.hid (I9.out.below bb)
    have A10 := Lib.hid (A9.out.below bb A9.out.lt)
    have B10 := Lib.hid (B9.out.below bb B9.out.lt)
    have C10 := Lib.hid (C9.out.below bb C9.out.lt)
    have R10 := Lib.hid (R9.out.below bb R9.out.lt)
    have szz := bb.size
    clear I9 A9 B9 C9 R9 bb
    refine HK5.out _ _ ⟨⟨A10.out.cell' 0 rfl, A10.out.cell' 1 rfl⟩, ⟨B10.out.cell' 0 rfl, B10.out.cell' 1 rfl⟩, C10.out.cell' 0 rfl, C10.out.cell' 1 rfl⟩ ?_
    clear HK5
    refine one_next 9 (by kernel_rfl) rfl rfl fun K9 hK9 => ?_
    have HK9 := Lib.hid hK9
    clear hK9
    go_simp
    refine (addpt_some _ _ _ _ _).mono ?_
    rintro e wc ⟨p3, p4, rfl, bb⟩
    have I11 := Lib.hid (I10.out.below bb)
    have A11 := Lib.hid (A10.out.below bb A10.out.lt)
    have B11 := Lib.hid (B10.out.below bb B10.out.lt)
    have C11 := Lib.hid (C10.out.below bb C10.out.lt)
    have R11 := Lib.hid (R10.out.below bb R10.out.lt)
    have szz := bb.size
    clear I10 A10 B10 C10 R10 bb
    refine HK9.out _ _ ⟨⟨A11.out.cell' 0 rfl, A11.out.cell' 1 rfl⟩, ⟨B11.out.cell' 0 rfl, B11.out.cell' 1 rfl⟩, C11.out.cell' 0 rfl, C11.out.cell' 1 rfl⟩ ?_
    clear HK9
    refine one_next 11 (by kernel_rfl) rfl rfl fun K11 hK11 => ?_
    have HK11 := Lib.hid hK11
    clear hK11
    go_simp
    refine (at_some _ _ _ _ _).mono ?_
    rintro e wd ⟨x2, y2, z2, rfl, bb⟩
    have I12 := Lib.hid (I11.out.below bb)
    have A12 := Lib.hid (A11.out.below bb A11.out.lt)
    have B12 := Lib.hid (B11.out.below bb B11.out.lt)
    have C12 := Lib.hid (C11.out.below bb C11.out.lt)
    have R12 := Lib.hid (R11.out.below bb R11.out.lt)
    have szz := bb.size
    clear I11 A11 B11 C11 R11 bb
    refine HK11.out _ _ ⟨⟨A12.out.cell' 0 rfl, A12.out.cell' 1 rfl⟩, ⟨B12.out.cell' 0 rfl, B12.out.cell' 1 rfl⟩, C12.out.cell' 0 rfl, C12.out.cell' 1 rfl⟩ ?_
    clear HK11
    refine one_next 16 (by kernel_rfl) rfl rfl fun K16 hK16 => ?_
    have HK16 := Lib.hid hK16
    clear hK16
    go_simp
    refine (at_some _ _ _ _ _).mono ?_
    rintro e we ⟨x3, y3, z3, rfl, bb⟩
    have I13 := Lib.hid (I12.out.below bb)
    have A13 := Lib.hid (A12.out.below bb A12.out.lt)
    have B13 := Lib.hid (B12.out.below bb B12.out.lt)
    have C13 := Lib.hid (C12.out.below bb C12.out.lt)
    have R13 := Lib.hid (R12.out.below bb R12.out.lt)
    have szz := bb.size
    clear I12 A12 B12 C12 R12 bb
    refine HK16.out _ _ ⟨⟨A13.out.cell' 0 rfl, A13.out.cell' 1 rfl⟩, ⟨B13.out.cell' 0 rfl, B13.out.cell' 1 rfl⟩, C13.out.cell' 0 rfl, C13.out.cell' 1 rfl⟩ ?_
    clear HK16
    refine one_next 20 (by kernel_rfl) rfl rfl fun K20 hK20 => ?_
    have HK20 := Lib.hid hK20
    clear hK20
    go_simp
    refine (range_any we B g a n c z 1 90000 I13.out.src (by omega) (by omega) (by omega)).mono ?_
    rintro e wf ⟨fd, kf, hlf, hhf, rfl, ss, gg⟩
    have I14 := Lib.hid (I13.out.next ss gg)
    have A14 := Lib.hid (A13.out.grown gg (by intro e; injection e; omega))
    have B14 := Lib.hid (B13.out.grown gg (by intro e; injection e; omega))
    have C14 := Lib.hid (C13.out.grown gg (by intro e; injection e; omega))
    have R14 := Lib.hid (Blk.grown R13.out gg (by intro e; injection e; omega))
    have szz := gg.size
    clear I13 A13 B13 C13 R13 ss gg
    refine HK20.out _ _ ⟨⟨A14.out.cell' 0 rfl, A14.out.cell' 1 rfl⟩, ⟨B14.out.cell' 0 rfl, B14.out.cell' 1 rfl⟩, C14.out.cell' 0 rfl, C14.out.cell' 1 rfl⟩ ?_
    clear HK20
    refine one_next 22 (by kernel_rfl) rfl rfl fun K22 hK22 => ?_
    have HK22 := Lib.hid hK22
    clear hK22
    go_simp
    refine (next_any wf B g a n c z 4 I14.out.src (by omega) (by omega)).mono ?_
    rintro e wg ⟨r22, kg, hlg, hhg, rfl, ss, gg⟩
    have I15 := Lib.hid (I14.out.next ss gg)
    have A15 := Lib.hid (A14.out.grown gg (by intro e; injection e; omega))
    have B15 := Lib.hid (B14.out.grown gg (by intro e; injection e; omega))
    have C15 := Lib.hid (C14.out.grown gg (by intro e; injection e; omega))
    have R15 := Lib.hid (Blk.grown R14.out gg (by intro e; injection e; omega))
    have szz := gg.size
    clear I14 A14 B14 C14 R14 ss gg
    refine HK22.out _ _ ⟨⟨A15.out.cell' 0 rfl, A15.out.cell' 1 rfl⟩, ⟨B15.out.cell' 0 rfl, B15.out.cell' 1 rfl⟩, C15.out.cell' 0 rfl, C15.out.cell' 1 rfl⟩ ?_
    clear HK22
    refine take_first 23 (v := .bool (r22 == 0)) rfl (by kernel_rfl) (by kernel_rfl) (by kernel_rfl) (fun _ _ _ h => h) rfl (fun W' hW' => by go_simp) ⟨⟨A15.out.cell' 0 rfl, A15.out.cell' 1 rfl⟩, ⟨B15.out.cell' 0 rfl, B15.out.cell' 1 rfl⟩, C15.out.cell' 0 rfl, C15.out.cell' 1 rfl⟩ ?_
    refine one_next 25 (by kernel_rfl) rfl rfl fun K25 hK25 => ?_
    have HK25 := Lib.hid hK25
    clear hK25
    go_simp
    refine (next_any wg B g a n c z 200 I15.out.src (by omega) (by omega)).mono ?_
    rintro e wh ⟨r25, kh, hlh, hhh, rfl, ss, gg⟩
    have I16 := Lib.hid (I15.out.next ss gg)
    have A16 := Lib.hid (A15.out.grown gg (by intro e; injection e; omega))
    have B16 := Lib.hid (B15.out.grown gg (by intro e; injection e; omega))
    have C16 := Lib.hid (C15.out.grown gg (by intro e; injection e; omega))
    have R16 := Lib.hid (Blk.grown R15.out gg (by intro e; injection e; omega))
    have szz := gg.size
    clear I15 A15 B15 C15 R15 ss gg
    refine HK25.out _ _ ⟨⟨A16.out.cell' 0 rfl, A16.out.cell' 1 rfl⟩, ⟨B16.out.cell' 0 rfl, B16.out.cell' 1 rfl⟩, C16.out.cell' 0 rfl, C16.out.cell' 1 rfl⟩ ?_
    clear HK25
    refine one_next 27 (by kernel_rfl) rfl rfl fun K27 hK27 => ?_
    have HK27 := Lib.hid hK27
    clear hK27
    go_simp
    refine (next_any wh B g a n c z 20 I16.out.src (by omega) (by omega)).mono ?_
    rintro e wi ⟨r27, ki, hli, hhi, rfl, ss, gg⟩
    have I17 := Lib.hid (I16.out.next ss gg)
    have A17 := Lib.hid (A16.out.grown gg (by intro e; injection e; omega))
    have B17 := Lib.hid (B16.out.grown gg (by intro e; injection e; omega))
    have C17 := Lib.hid (C16.out.grown gg (by intro e; injection e; omega))
    have R17 := Lib.hid (Blk.grown R16.out gg (by intro e; injection e; omega))
    have szz := gg.size
    clear I16 A16 B16 C16 R16 ss gg
    refine HK27.out _ _ ⟨⟨A17.out.cell' 0 rfl, A17.out.cell' 1 rfl⟩, ⟨B17.out.cell' 0 rfl, B17.out.cell' 1 rfl⟩, C17.out.cell' 0 rfl, C17.out.cell' 1 rfl⟩ ?_
    clear HK27
    refine one_next 28 (by kernel_rfl) rfl rfl fun K28 hK28 => ?_
    have HK28 := Lib.hid hK28
    clear hK28
    refine wo_built 25 _ (itA ⟨3, r27, x1, y1, z1, x2, y2, z2, plane, x3, y3, z3, 1 - 2 * r7, false, fd, (r22 == 0), 0, 0, r25, 0, 0, false⟩) (by with_unfolding_all kernel_rfl) ?_
    refine HK28.out _ _ ⟨⟨A17.out.cell' 0 rfl, A17.out.cell' 1 rfl⟩, ⟨B17.out.cell' 0 rfl, B17.out.cell' 1 rfl⟩, C17.out.cell' 0 rfl, C17.out.cell' 1 rfl⟩ ?_
    refine one_next 29 (by kernel_rfl) rfl rfl fun K29 hK29 => ?_
    have HK29 := Lib.hid hK29
    clear hK29
    refine wo_storeI (.tmp 2) (.tmp 63) w.heap.size ⟨3, r27, x1, y1, z1, x2, y2, z2, plane, x3, y3, z3, 1 - 2 * r7, false, fd, (r22 == 0), 0, 0, r25, 0, 0, false⟩ zeroI (by with_unfolding_all rfl) (by with_unfolding_all rfl) R17.out ?_
    have R18 := ItAt.row (o := zeroI) R17.out ⟨3, r27, x1, y1, z1, x2, y2, z2, plane, x3, y3, z3, 1 - 2 * r7, false, fd, (r22 == 0), 0, 0, r25, 0, 0, false⟩
    have I18 := I17.out.row (Nat.le_refl _) (itA ⟨3, r27, x1, y1, z1, x2, y2, z2, plane, x3, y3, z3, 1 - 2 * r7, false, fd, (r22 == 0), 0, 0, r25, 0, 0, false⟩)
    refine HK29.out _ _ ⟨⟨(A17.out.rowFar (by omega) _).cell' 0 rfl, (A17.out.rowFar (by omega) _).cell' 1 rfl⟩, ⟨(B17.out.rowFar (by omega) _).cell' 0 rfl, (B17.out.rowFar (by omega) _).cell' 1 rfl⟩, (C17.out.rowFar (by omega) _).cell' 0 rfl, (C17.out.rowFar (by omega) _).cell' 1 rfl⟩ ?_
    refine wpAnyH_done (by kernel_rfl) ?_ _
    clear HK28 HK29 A17 B17 C17 R17 I17
    have R18 := Lib.hid R18
    have I18 := Lib.hid I18
    go_simp
    go_wp2_with fail
    refine bodyPost_ret (results_cell_row rfl _ _ w.heap.size 25 (itA ⟨3, r27, x1, y1, z1, x2, y2, z2, plane, x3, y3, z3, 1 - 2 * r7, false, fd, (r22 == 0), 0, 0, r25, 0, 0, false⟩) (0, 0) _ rfl (show Blk _ _ _ _ from R18.out) Tryz.underlying25 rfl (by kernel_rfl)) rfl ?_
    exact ⟨⟨3, r27, x1, y1, z1, x2, y2, z2, plane, x3, y3, z3, 1 - 2 * r7, false, fd, (r22 == 0), 0, 0, r25, 0, 0, false⟩, rfl, rfl, I18.out⟩
  · go_wp2_with fail
    refine calls_told (fun W => W.heap.size = w2.heap.size + 2 ∧ GI B g a n c z w W ∧ ItAt W w.heap.size zeroI ∧ Blk W w2.heap.size 88 #[.int .i64 au, .int .i64 aw] ∧ Blk W (w2.heap.size + 1) 88 #[.int .i64 bu, .int .i64 bw])
      ⟨by simp, (J2.out.alloc _).alloc _, (R2.out.alloc _).alloc _, (Blk.new w2 _ _).alloc _, blk_new1 w2 _ _ _⟩ ?_
    rintro W3 ⟨z3, I3, R3, A3, B3⟩
    clear J2 R2
    refine (spt_any W3 B g a n c z 30000 I3.src (by omega) (by omega)).mono ?_
    rintro e w3 ⟨cu, cw, hcu, hcw, rfl, G3⟩
    have I4 := Lib.hid (I3.trans G3)
    have R4 := Lib.hid (G3.blk R3 (by omega))
    have A4 := Lib.hid (G3.blk A3 (by omega))
    have B4 := Lib.hid (G3.blk B3 (by omega))
    have sz3 := G3.size
    clear G3 I3 R3 A3 B3
    go_wp2_with fail
    refine calls_told (fun W => W.heap.size = w3.heap.size + 1 ∧ GI B g a n c z w W ∧ ItAt W w.heap.size zeroI ∧ Blk W w2.heap.size 88 #[.int .i64 au, .int .i64 aw] ∧ Blk W (w2.heap.size + 1) 88 #[.int .i64 bu, .int .i64 bw] ∧ Blk W w3.heap.size 88 #[.int .i64 cu, .int .i64 cw])
      ⟨by simp, I4.out.alloc _, R4.out.alloc _, A4.out.alloc _, B4.out.alloc _, Blk.new w3 _ _⟩ ?_
    clear I4 R4 A4 B4
    rintro W4 ⟨z4, I4, R4, A4, B4, C4⟩
    refine (range_any W4 B g a n c z (-500) 500 I4.src (by omega) (by omega) (by omega)).mono ?_
    rintro e w5 ⟨hh, k5, hl5, hh5, rfl, s5, g5⟩
    have I5 := Lib.hid (I4.next s5 g5)
    have R5 := Lib.hid (Blk.grown R4 g5 (by intro e; injection e; omega))
    have A5 := Lib.hid (A4.grown g5 (by intro e; injection e; omega))
    have B5 := Lib.hid (B4.grown g5 (by intro e; injection e; omega))
    have C5 := Lib.hid (C4.grown g5 (by intro e; injection e; omega))
    have sz5 := g5.size
    clear I4 R4 A4 B4 C4 s5 g5
    go_wp2_with fail
    refine (range_any w5 B g a n c z (-500) 500 I5.out.src (by omega) (by omega) (by omega)).mono ?_
    rintro e w6 ⟨kk, k6, hl6, hh6, rfl, s6, g6⟩
    have I6 := Lib.hid (I5.out.next s6 g6)
    have R6 := Lib.hid (Blk.grown R5.out g6 (by intro e; injection e; omega))
    have A6 := Lib.hid (A5.out.grown g6 (by intro e; injection e; omega))
    have B6 := Lib.hid (B5.out.grown g6 (by intro e; injection e; omega))
    have C6 := Lib.hid (C5.out.grown g6 (by intro e; injection e; omega))
    have sz6 := g6.size
    clear I5 R5 A5 B5 C5 s6 g6
    go_wp2_with fail
    refine (next_any w6 B g a n c z 2 I6.out.src (by omega) (by omega)).mono ?_
    rintro e w7 ⟨r7, k7, hl7, hh7, rfl, s7, g7⟩
    have I7 := I6.out.next s7 g7
    have R7 := Blk.grown R6.out g7 (by intro e; injection e; omega)
    have A7 := A6.out.grown g7 (by intro e; injection e; omega)
    have B7 := B6.out.grown g7 (by intro e; injection e; omega)
    have C7 := C6.out.grown g7 (by intro e; injection e; omega)
    have sz7 := g7.size
    have hw7 : IntKind.i64.wrap (1 - IntKind.i64.wrap (2 * r7)) = 1 - 2 * r7 := by rw [IntKind.wrap_i64, IntKind.wrap_i64]; omega
    have hw7' : IntKind.i64.wrap (1 - 2 * r7) = 1 - 2 * r7 := by rw [IntKind.wrap_i64]; omega
    have hw7'' : IntKind.i64.wrap (2 * r7) = 2 * r7 := by rw [IntKind.wrap_i64]; omega
    clear I6 R6 A6 B6 C6 s7 g7
    have I8 := Lib.hid I7.drew
    have R8 := Lib.hid R7.drew
    have A8 := Lib.hid A7.drew
    have B8 := Lib.hid B7.drew
    have C8 := Lib.hid C7.drew
    clear I7 R7 A7 B7 C7
    go_wp2_with fail
    refine wp_region_held_drew (S := fun W => (W.cell? ⟨w2.heap.size, 0, none⟩ = some (.int .i64 au) ∧ W.cell? ⟨w2.heap.size, 1, none⟩ = some (.int .i64 aw)) ∧ (W.cell? ⟨w2.heap.size + 1, 0, none⟩ = some (.int .i64 bu) ∧ W.cell? ⟨w2.heap.size + 1, 1, none⟩ = some (.int .i64 bw)) ∧ W.cell? ⟨w3.heap.size, 0, none⟩ = some (.int .i64 cu) ∧ W.cell? ⟨w3.heap.size, 1, none⟩ = some (.int .i64 cw)) (by kernel_rfl) ⟨⟨A8.out.cell' 0 rfl, A8.out.cell' 1 rfl⟩, ⟨B8.out.cell' 0 rfl, B8.out.cell' 1 rfl⟩, C8.out.cell' 0 rfl, C8.out.cell' 1 rfl⟩ fun hS0 => ?_
    refine take_first 0 (v := .int .i64 plane) rfl (by kernel_rfl) (by kernel_rfl) (by kernel_rfl) (fun _ _ _ h => h) rfl (fun W' hW' => by go_simp) hS0 ?_
    refine take_first 1 (v := .agg #[.int .i64 cu, .int .i64 cw]) rfl (by kernel_rfl) (by kernel_rfl) (by kernel_rfl) (fun _ _ _ h => h) rfl (fun W' hW' => by obtain ⟨⟨q0, q1⟩, ⟨q2, q3⟩, q4, q5⟩ := hW'; go_simp) hS0 ?_
    refine take_first 2 (v := .agg #[.int .i64 au, .int .i64 aw]) rfl (by kernel_rfl) (by kernel_rfl) (by kernel_rfl) (fun _ _ _ h => h) rfl (fun W' hW' => by obtain ⟨⟨q0, q1⟩, ⟨q2, q3⟩, q4, q5⟩ := hW'; go_simp) hS0 ?_
    refine take_first 4 (v := .int .i64 hh) rfl (by kernel_rfl) (by kernel_rfl) (by kernel_rfl) (fun _ _ _ h => h) rfl (fun W' hW' => by go_simp) hS0 ?_
    refine take_first 6 (v := .int .i64 plane) rfl (by kernel_rfl) (by kernel_rfl) (by kernel_rfl) (fun _ _ _ h => h) rfl (fun W' hW' => by go_simp) hS0 ?_
    refine take_first 7 (v := .agg #[.int .i64 cu, .int .i64 cw]) rfl (by kernel_rfl) (by kernel_rfl) (by kernel_rfl) (fun _ _ _ h => h) rfl (fun W' hW' => by obtain ⟨⟨q0, q1⟩, ⟨q2, q3⟩, q4, q5⟩ := hW'; go_simp) hS0 ?_
    refine take_first 8 (v := .agg #[.int .i64 bu, .int .i64 bw]) rfl (by kernel_rfl) (by kernel_rfl) (by kernel_rfl) (fun _ _ _ h => h) rfl (fun W' hW' => by obtain ⟨⟨q0, q1⟩, ⟨q2, q3⟩, q4, q5⟩ := hW'; go_simp) hS0 ?_
    refine take_first 10 (v := .int .i64 kk) rfl (by kernel_rfl) (by kernel_rfl) (by kernel_rfl) (fun _ _ _ h => h) rfl (fun W' hW' => by go_simp) hS0 ?_
    refine take_first 12 (v := .int .i64 plane) rfl (by kernel_rfl) (by kernel_rfl) (by kernel_rfl) (fun _ _ _ h => h) rfl (fun W' hW' => by go_simp) hS0 ?_
    refine take_first 13 (v := .int .i64 plane) rfl (by kernel_rfl) (by kernel_rfl) (by kernel_rfl) (fun _ _ _ h => h) rfl (fun W' hW' => by go_simp) hS0 ?_
    refine take_first 14 (v := .agg #[.int .i64 cu, .int .i64 cw]) rfl (by kernel_rfl) (by kernel_rfl) (by kernel_rfl) (fun _ _ _ h => h) rfl (fun W' hW' => by obtain ⟨⟨q0, q1⟩, ⟨q2, q3⟩, q4, q5⟩ := hW'; go_simp) hS0 ?_
    refine take_first 15 (v := .int .i64 hh) rfl (by kernel_rfl) (by kernel_rfl) (by kernel_rfl) (fun _ _ _ h => h) rfl (fun W' hW' => by go_simp) hS0 ?_
    refine take_first 17 (v := .int .i64 (1 - 2 * r7)) rfl (by kernel_rfl) (by kernel_rfl) (by kernel_rfl) (fun _ _ _ h => h) rfl (fun W' hW' => by go_simp) hS0 ?_
    refine take_first 18 (v := .bool (full)) rfl (by kernel_rfl) (by kernel_rfl) (by kernel_rfl) (fun _ _ _ h => h) rfl (fun W' hW' => by go_simp) hS0 ?_
    refine take_first 19 (v := .pointer (some ⟨g, 0, none⟩)) rfl (by kernel_rfl) (by kernel_rfl) (by kernel_rfl) (fun _ _ _ h => h) rfl (fun W' hW' => by go_simp) hS0 ?_
    refine take_first 21 (v := .pointer (some ⟨g, 0, none⟩)) rfl (by kernel_rfl) (by kernel_rfl) (by kernel_rfl) (fun _ _ _ h => h) rfl (fun W' hW' => by go_simp) hS0 ?_
    refine take_first 24 (v := .pointer (some ⟨g, 0, none⟩)) rfl (by kernel_rfl) (by kernel_rfl) (by kernel_rfl) (fun _ _ _ h => h) rfl (fun W' hW' => by go_simp) hS0 ?_
    refine take_first 26 (v := .pointer (some ⟨g, 0, none⟩)) rfl (by kernel_rfl) (by kernel_rfl) (by kernel_rfl) (fun _ _ _ h => h) rfl (fun W' hW' => by go_simp) hS0 ?_
    clear hw7 hw7' hw7''
    refine one_next 3 (by kernel_rfl) rfl rfl fun K3 hK3 => ?_
    have HK3 := Lib.hid hK3
    clear hK3
    go_simp
    refine (addpt_some _ _ _ _ _).mono ?_
    rintro e wa ⟨p1, p2, rfl, bb⟩
    have I9 := Lib.hid (I8.out.below bb)
    have A9 := Lib.hid (A8.out.below bb A8.out.lt)
    have B9 := Lib.hid (B8.out.below bb B8.out.lt)
    have C9 := Lib.hid (C8.out.below bb C8.out.lt)
    have R9 := Lib.hid (R8.out.below bb R8.out.lt)
    have szz := bb.size
    clear I8 A8 B8 C8 R8 bb
    refine HK3.out _ _ ⟨⟨A9.out.cell' 0 rfl, A9.out.cell' 1 rfl⟩, ⟨B9.out.cell' 0 rfl, B9.out.cell' 1 rfl⟩, C9.out.cell' 0 rfl, C9.out.cell' 1 rfl⟩ ?_
    clear HK3
    clear hS0
    refine one_next 5 (by kernel_rfl) rfl rfl fun K5 hK5 => ?_
    have HK5 := Lib.hid hK5
    clear hK5
    go_simp
    refine (at_some _ _ _ _ _).mono ?_
    rintro e wb ⟨x1, y1, z1, rfl, bb⟩
    have I10 := Lib.hid (I9.out.below bb)
    have A10 := Lib.hid (A9.out.below bb A9.out.lt)
    have B10 := Lib.hid (B9.out.below bb B9.out.lt)
    have C10 := Lib.hid (C9.out.below bb C9.out.lt)
    have R10 := Lib.hid (R9.out.below bb R9.out.lt)
    have szz := bb.size
    clear I9 A9 B9 C9 R9 bb
    refine HK5.out _ _ ⟨⟨A10.out.cell' 0 rfl, A10.out.cell' 1 rfl⟩, ⟨B10.out.cell' 0 rfl, B10.out.cell' 1 rfl⟩, C10.out.cell' 0 rfl, C10.out.cell' 1 rfl⟩ ?_
    clear HK5
    refine one_next 9 (by kernel_rfl) rfl rfl fun K9 hK9 => ?_
    have HK9 := Lib.hid hK9
    clear hK9
    go_simp
    refine (addpt_some _ _ _ _ _).mono ?_
    rintro e wc ⟨p3, p4, rfl, bb⟩
    have I11 := Lib.hid (I10.out.below bb)
    have A11 := Lib.hid (A10.out.below bb A10.out.lt)
    have B11 := Lib.hid (B10.out.below bb B10.out.lt)
    have C11 := Lib.hid (C10.out.below bb C10.out.lt)
    have R11 := Lib.hid (R10.out.below bb R10.out.lt)
    have szz := bb.size
    clear I10 A10 B10 C10 R10 bb
    refine HK9.out _ _ ⟨⟨A11.out.cell' 0 rfl, A11.out.cell' 1 rfl⟩, ⟨B11.out.cell' 0 rfl, B11.out.cell' 1 rfl⟩, C11.out.cell' 0 rfl, C11.out.cell' 1 rfl⟩ ?_
    clear HK9
    refine one_next 11 (by kernel_rfl) rfl rfl fun K11 hK11 => ?_
    have HK11 := Lib.hid hK11
    clear hK11
    go_simp
    refine (at_some _ _ _ _ _).mono ?_
    rintro e wd ⟨x2, y2, z2, rfl, bb⟩
    have I12 := Lib.hid (I11.out.below bb)
    have A12 := Lib.hid (A11.out.below bb A11.out.lt)
    have B12 := Lib.hid (B11.out.below bb B11.out.lt)
    have C12 := Lib.hid (C11.out.below bb C11.out.lt)
    have R12 := Lib.hid (R11.out.below bb R11.out.lt)
    have szz := bb.size
    clear I11 A11 B11 C11 R11 bb
    refine HK11.out _ _ ⟨⟨A12.out.cell' 0 rfl, A12.out.cell' 1 rfl⟩, ⟨B12.out.cell' 0 rfl, B12.out.cell' 1 rfl⟩, C12.out.cell' 0 rfl, C12.out.cell' 1 rfl⟩ ?_
    clear HK11
    refine one_next 16 (by kernel_rfl) rfl rfl fun K16 hK16 => ?_
    have HK16 := Lib.hid hK16
    clear hK16
    go_simp
    refine (at_some _ _ _ _ _).mono ?_
    rintro e we ⟨x3, y3, z3, rfl, bb⟩
    have I13 := Lib.hid (I12.out.below bb)
    have A13 := Lib.hid (A12.out.below bb A12.out.lt)
    have B13 := Lib.hid (B12.out.below bb B12.out.lt)
    have C13 := Lib.hid (C12.out.below bb C12.out.lt)
    have R13 := Lib.hid (R12.out.below bb R12.out.lt)
    have szz := bb.size
    clear I12 A12 B12 C12 R12 bb
    refine HK16.out _ _ ⟨⟨A13.out.cell' 0 rfl, A13.out.cell' 1 rfl⟩, ⟨B13.out.cell' 0 rfl, B13.out.cell' 1 rfl⟩, C13.out.cell' 0 rfl, C13.out.cell' 1 rfl⟩ ?_
    clear HK16
    refine one_next 20 (by kernel_rfl) rfl rfl fun K20 hK20 => ?_
    have HK20 := Lib.hid hK20
    clear hK20
    go_simp
    refine (range_any we B g a n c z 1 90000 I13.out.src (by omega) (by omega) (by omega)).mono ?_
    rintro e wf ⟨fd, kf, hlf, hhf, rfl, ss, gg⟩
    have I14 := Lib.hid (I13.out.next ss gg)
    have A14 := Lib.hid (A13.out.grown gg (by intro e; injection e; omega))
    have B14 := Lib.hid (B13.out.grown gg (by intro e; injection e; omega))
    have C14 := Lib.hid (C13.out.grown gg (by intro e; injection e; omega))
    have R14 := Lib.hid (Blk.grown R13.out gg (by intro e; injection e; omega))
    have szz := gg.size
    clear I13 A13 B13 C13 R13 ss gg
    refine HK20.out _ _ ⟨⟨A14.out.cell' 0 rfl, A14.out.cell' 1 rfl⟩, ⟨B14.out.cell' 0 rfl, B14.out.cell' 1 rfl⟩, C14.out.cell' 0 rfl, C14.out.cell' 1 rfl⟩ ?_
    clear HK20
    refine one_next 22 (by kernel_rfl) rfl rfl fun K22 hK22 => ?_
    have HK22 := Lib.hid hK22
    clear hK22
    go_simp
    refine (next_any wf B g a n c z 4 I14.out.src (by omega) (by omega)).mono ?_
    rintro e wg ⟨r22, kg, hlg, hhg, rfl, ss, gg⟩
    have I15 := Lib.hid (I14.out.next ss gg)
    have A15 := Lib.hid (A14.out.grown gg (by intro e; injection e; omega))
    have B15 := Lib.hid (B14.out.grown gg (by intro e; injection e; omega))
    have C15 := Lib.hid (C14.out.grown gg (by intro e; injection e; omega))
    have R15 := Lib.hid (Blk.grown R14.out gg (by intro e; injection e; omega))
    have szz := gg.size
    clear I14 A14 B14 C14 R14 ss gg
    refine HK22.out _ _ ⟨⟨A15.out.cell' 0 rfl, A15.out.cell' 1 rfl⟩, ⟨B15.out.cell' 0 rfl, B15.out.cell' 1 rfl⟩, C15.out.cell' 0 rfl, C15.out.cell' 1 rfl⟩ ?_
    clear HK22
    refine take_first 23 (v := .bool (r22 == 0)) rfl (by kernel_rfl) (by kernel_rfl) (by kernel_rfl) (fun _ _ _ h => h) rfl (fun W' hW' => by go_simp) ⟨⟨A15.out.cell' 0 rfl, A15.out.cell' 1 rfl⟩, ⟨B15.out.cell' 0 rfl, B15.out.cell' 1 rfl⟩, C15.out.cell' 0 rfl, C15.out.cell' 1 rfl⟩ ?_
    refine one_next 25 (by kernel_rfl) rfl rfl fun K25 hK25 => ?_
    have HK25 := Lib.hid hK25
    clear hK25
    go_simp
    refine (next_any wg B g a n c z 200 I15.out.src (by omega) (by omega)).mono ?_
    rintro e wh ⟨r25, kh, hlh, hhh, rfl, ss, gg⟩
    have I16 := Lib.hid (I15.out.next ss gg)
    have A16 := Lib.hid (A15.out.grown gg (by intro e; injection e; omega))
    have B16 := Lib.hid (B15.out.grown gg (by intro e; injection e; omega))
    have C16 := Lib.hid (C15.out.grown gg (by intro e; injection e; omega))
    have R16 := Lib.hid (Blk.grown R15.out gg (by intro e; injection e; omega))
    have szz := gg.size
    clear I15 A15 B15 C15 R15 ss gg
    refine HK25.out _ _ ⟨⟨A16.out.cell' 0 rfl, A16.out.cell' 1 rfl⟩, ⟨B16.out.cell' 0 rfl, B16.out.cell' 1 rfl⟩, C16.out.cell' 0 rfl, C16.out.cell' 1 rfl⟩ ?_
    clear HK25
    refine one_next 27 (by kernel_rfl) rfl rfl fun K27 hK27 => ?_
    have HK27 := Lib.hid hK27
    clear hK27
    go_simp
    refine (next_any wh B g a n c z 20 I16.out.src (by omega) (by omega)).mono ?_
    rintro e wi ⟨r27, ki, hli, hhi, rfl, ss, gg⟩
    have I17 := Lib.hid (I16.out.next ss gg)
    have A17 := Lib.hid (A16.out.grown gg (by intro e; injection e; omega))
    have B17 := Lib.hid (B16.out.grown gg (by intro e; injection e; omega))
    have C17 := Lib.hid (C16.out.grown gg (by intro e; injection e; omega))
    have R17 := Lib.hid (Blk.grown R16.out gg (by intro e; injection e; omega))
    have szz := gg.size
    clear I16 A16 B16 C16 R16 ss gg
    refine HK27.out _ _ ⟨⟨A17.out.cell' 0 rfl, A17.out.cell' 1 rfl⟩, ⟨B17.out.cell' 0 rfl, B17.out.cell' 1 rfl⟩, C17.out.cell' 0 rfl, C17.out.cell' 1 rfl⟩ ?_
    clear HK27
    refine one_next 28 (by kernel_rfl) rfl rfl fun K28 hK28 => ?_
    have HK28 := Lib.hid hK28
    clear hK28
    refine wo_built 25 _ (itA ⟨3, r27, x1, y1, z1, x2, y2, z2, plane, x3, y3, z3, 1 - 2 * r7, full, fd, (r22 == 0), 0, 0, r25, 0, 0, false⟩) (by with_unfolding_all kernel_rfl) ?_
    refine HK28.out _ _ ⟨⟨A17.out.cell' 0 rfl, A17.out.cell' 1 rfl⟩, ⟨B17.out.cell' 0 rfl, B17.out.cell' 1 rfl⟩, C17.out.cell' 0 rfl, C17.out.cell' 1 rfl⟩ ?_
    refine one_next 29 (by kernel_rfl) rfl rfl fun K29 hK29 => ?_
    have HK29 := Lib.hid hK29
    clear hK29
    refine wo_storeI (.tmp 2) (.tmp 63) w.heap.size ⟨3, r27, x1, y1, z1, x2, y2, z2, plane, x3, y3, z3, 1 - 2 * r7, full, fd, (r22 == 0), 0, 0, r25, 0, 0, false⟩ zeroI (by with_unfolding_all rfl) (by with_unfolding_all rfl) R17.out ?_
    have R18 := ItAt.row (o := zeroI) R17.out ⟨3, r27, x1, y1, z1, x2, y2, z2, plane, x3, y3, z3, 1 - 2 * r7, full, fd, (r22 == 0), 0, 0, r25, 0, 0, false⟩
    have I18 := I17.out.row (Nat.le_refl _) (itA ⟨3, r27, x1, y1, z1, x2, y2, z2, plane, x3, y3, z3, 1 - 2 * r7, full, fd, (r22 == 0), 0, 0, r25, 0, 0, false⟩)
    refine HK29.out _ _ ⟨⟨(A17.out.rowFar (by omega) _).cell' 0 rfl, (A17.out.rowFar (by omega) _).cell' 1 rfl⟩, ⟨(B17.out.rowFar (by omega) _).cell' 0 rfl, (B17.out.rowFar (by omega) _).cell' 1 rfl⟩, (C17.out.rowFar (by omega) _).cell' 0 rfl, (C17.out.rowFar (by omega) _).cell' 1 rfl⟩ ?_
    refine wpAnyH_done (by kernel_rfl) ?_ _
    clear HK28 HK29 A17 B17 C17 R17 I17
    have R18 := Lib.hid R18
    have I18 := Lib.hid I18
    go_simp
    go_wp2_with fail
    refine bodyPost_ret (results_cell_row rfl _ _ w.heap.size 25 (itA ⟨3, r27, x1, y1, z1, x2, y2, z2, plane, x3, y3, z3, 1 - 2 * r7, full, fd, (r22 == 0), 0, 0, r25, 0, 0, false⟩) (0, 0) _ rfl (show Blk _ _ _ _ from R18.out) Tryz.underlying25 rfl (by kernel_rfl)) rfl ?_
    exact ⟨⟨3, r27, x1, y1, z1, x2, y2, z2, plane, x3, y3, z3, 1 - 2 * r7, full, fd, (r22 == 0), 0, 0, r25, 0, 0, false⟩, rfl, rfl, I18.out⟩
end Go.Proofs.YtefdjdipbnnoaaaGreatDoor

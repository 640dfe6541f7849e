/-
  arc.Extent: motions; arcs with coordinates in range.
-/
import Derived.Test.YtefdjdipbnnoaaaGreatDoorSector17
import Derived.Test.YtefdjdipbnnoaaaGreatDoorBox17
import Derived.Test.YtefdjdipbnnoaaaGreatDoorSqrt17
import Derived.Test.YtefdjdipbnnoaaaGreatDoorCheck17
import Derived.Test.YtefdjdipbnnoaaaGreatDoorPlanF17
namespace Go.Proofs.YtefdjdipbnnoaaaGreatDoor
open Go Go.RowKit
set_option linter.unusedVariables false
set_option linter.unusedSimpArgs false

def boxLo (p q : V3) : V3 := (mnI p.1 q.1, mnI p.2.1 q.2.1, mnI p.2.2 q.2.2)
def boxHi (p q : V3) : V3 := (mxI p.1 q.1, mxI p.2.1 q.2.1, mxI p.2.2 q.2.2)
def dirL : List (Int × Int) := [(1, 0), (0, 1), (-1, 0), (0, -1)]
/-- The outermost point of an arc's circle in a direction. -/
def extP (i : It) (r : Int) (d : Int × Int) : V3 := (soX i.plane (i.cU + r * d.1) (i.cW + r * d.2) i.cH, soY i.plane (i.cU + r * d.1) (i.cW + r * d.2) i.cH, soZ i.plane (i.cU + r * d.1) (i.cW + r * d.2) i.cH)
def extS (i : It) (r : Int) (a : V3 × V3) (d : Int × Int) : V3 × V3 := if insV i d.1 d.2 = true then (boxLo a.1 (extP i r d), boxHi a.2 (extP i r d)) else a
def extR (i : It) : Nat := upR (mxI (inn (wS i.fU i.cU) (wS i.fW i.cW) (wS i.fU i.cU) (wS i.fW i.cW)) (inn (wS i.tU i.cU) (wS i.tW i.cW) (wS i.tU i.cU) (wS i.tW i.cW))).toNat
/-- arc.Extent. -/
def extI (i : It) : V3 × V3 := if i.kind = 3 then dirL.foldl (extS i (extR i)) (boxLo i.from3 i.to3, boxHi i.from3 i.to3) else (boxLo i.from3 i.to3, boxHi i.from3 i.to3)
/-- What stands in the world while an extent is made. -/
structure XS (w : World) (i : It) (L : Nat) (lo hi : V3) (W : World) : Prop where
  i : ItAt W w.heap.size i
  z1 : Blk W (w.heap.size + 1) 23 #[.int .i64 0, .int .i64 0, .int .i64 0]
  z2 : Blk W (w.heap.size + 1 + 1) 23 #[.int .i64 0, .int .i64 0, .int .i64 0]
  lo : Blk W L 23 (v3A lo)
  hi : Blk W (L + 1) 23 (v3A hi)
  bel : Below w.heap.size w W
theorem XS.below {w W W' : World} {i : It} {L : Nat} {lo hi : V3} (h : XS w i L lo hi W) (b : Below W.heap.size W W') : XS w i L lo hi W' :=
  ⟨h.i.below b, h.z1.below b h.z1.lt, h.z2.below b h.z2.lt, h.lo.below b h.lo.lt, h.hi.below b h.hi.lt, h.bel.trans (b.mono h.bel.size)⟩
theorem XS.drew {w W : World} {i : It} {L : Nat} {lo hi : V3} (h : XS w i L lo hi W) : XS w i L lo hi W.drew := ⟨h.i.drew, h.z1.drew, h.z2.drew, h.lo.drew, h.hi.drew, h.bel.drew⟩
theorem XS.alloc {w W : World} {i : It} {L : Nat} {lo hi : V3} (h : XS w i L lo hi W) (o : Obj) : XS w i L lo hi (W.alloc o) := ⟨h.i.alloc _, h.z1.alloc _, h.z2.alloc _, h.lo.alloc _, h.hi.alloc _, h.bel.alloc h.bel.size _⟩
/-- The store to the first result. -/
theorem XS.far {w W : World} {i : It} {L : Nat} {lo hi : V3} (h : XS w i L lo hi W) (hL : w.heap.size + 1 + 1 < L) (u0 u1 u2 : Value) : Blk (((W.setCell ⟨w.heap.size + 1, 0, none⟩ u0).setCell ⟨w.heap.size + 1, 1, none⟩ u1).setCell ⟨w.heap.size + 1, 2, none⟩ u2) L 23 (v3A lo) ∧ Blk (((W.setCell ⟨w.heap.size + 1, 0, none⟩ u0).setCell ⟨w.heap.size + 1, 1, none⟩ u1).setCell ⟨w.heap.size + 1, 2, none⟩ u2) (L + 1) 23 (v3A hi) :=
  ⟨Blk.skip (Blk.skip (Blk.skip h.lo (by show L ≠ w.heap.size + 1; omega) _) (by show L ≠ w.heap.size + 1; omega) _) (by show L ≠ w.heap.size + 1; omega) _,
   Blk.skip (Blk.skip (Blk.skip h.hi (by show L + 1 ≠ w.heap.size + 1; omega) _) (by show L + 1 ≠ w.heap.size + 1; omega) _) (by show L + 1 ≠ w.heap.size + 1; omega) _⟩
/-- What the last region keeps. -/
structure XE (L : Nat) (lo hi : V3) (W : World) : Prop where
  lo : Blk W L 23 (v3A lo)
  hi : Blk W (L + 1) 23 (v3A hi)
theorem dir_ix0 (W : World) : (Instr.index 96 (.agg #[.int .i64 1, .int .i64 0, .int .i64 0, .int .i64 1, .int .i64 (-1), .int .i64 0, .int .i64 0, .int .i64 (-1)]) (.int .i64 0)).run Tryz.prog W = .ok (.agg #[.int .i64 1, .int .i64 0]) W := by kernel_rfl
theorem dir_ix1 (W : World) : (Instr.index 96 (.agg #[.int .i64 1, .int .i64 0, .int .i64 0, .int .i64 1, .int .i64 (-1), .int .i64 0, .int .i64 0, .int .i64 (-1)]) (.int .i64 1)).run Tryz.prog W = .ok (.agg #[.int .i64 0, .int .i64 1]) W := by kernel_rfl
theorem dir_ix2 (W : World) : (Instr.index 96 (.agg #[.int .i64 1, .int .i64 0, .int .i64 0, .int .i64 1, .int .i64 (-1), .int .i64 0, .int .i64 0, .int .i64 (-1)]) (.int .i64 2)).run Tryz.prog W = .ok (.agg #[.int .i64 (-1), .int .i64 0]) W := by kernel_rfl
theorem dir_ix3 (W : World) : (Instr.index 96 (.agg #[.int .i64 1, .int .i64 0, .int .i64 0, .int .i64 1, .int .i64 (-1), .int .i64 0, .int .i64 0, .int .i64 (-1)]) (.int .i64 3)).run Tryz.prog W = .ok (.agg #[.int .i64 0, .int .i64 (-1)]) W := by kernel_rfl
/-- The extents are stored. -/
theorem XS.setlo {w W : World} {i : It} {L : Nat} {lo hi : V3} (h : XS w i L lo hi W) (hL : w.heap.size + 1 + 1 < L) (q : V3) : XS w i L q hi (((W.setCell ⟨L, 0, none⟩ (.int .i64 q.1)).setCell ⟨L, 1, none⟩ (.int .i64 q.2.1)).setCell ⟨L, 2, none⟩ (.int .i64 q.2.2)) := by
  exact ⟨((h.i.far (by show w.heap.size ≠ L; omega) _).far (by show w.heap.size ≠ L; omega) _).far (by show w.heap.size ≠ L; omega) _,
   Blk.skip (Blk.skip (Blk.skip h.z1 (by show w.heap.size + 1 ≠ L; omega) _) (by show w.heap.size + 1 ≠ L; omega) _) (by show w.heap.size + 1 ≠ L; omega) _,
   Blk.skip (Blk.skip (Blk.skip h.z2 (by show w.heap.size + 1 + 1 ≠ L; omega) _) (by show w.heap.size + 1 + 1 ≠ L; omega) _) (by show w.heap.size + 1 + 1 ≠ L; omega) _,
   ((h.lo.put 0 _).put 1 _).put 2 _,
   Blk.skip (Blk.skip (Blk.skip h.hi (by show L + 1 ≠ L; omega) _) (by show L + 1 ≠ L; omega) _) (by show L + 1 ≠ L; omega) _,
   ((h.bel.setCell (by show w.heap.size ≤ L; omega) _).setCell (by show w.heap.size ≤ L; omega) _).setCell (by show w.heap.size ≤ L; omega) _⟩
theorem XS.sethi {w W : World} {i : It} {L : Nat} {lo hi : V3} (h : XS w i L lo hi W) (hL : w.heap.size + 1 + 1 < L) (q : V3) : XS w i L lo q (((W.setCell ⟨L + 1, 0, none⟩ (.int .i64 q.1)).setCell ⟨L + 1, 1, none⟩ (.int .i64 q.2.1)).setCell ⟨L + 1, 2, none⟩ (.int .i64 q.2.2)) := by
  exact ⟨((h.i.far (by show w.heap.size ≠ L + 1; omega) _).far (by show w.heap.size ≠ L + 1; omega) _).far (by show w.heap.size ≠ L + 1; omega) _,
   Blk.skip (Blk.skip (Blk.skip h.z1 (by show w.heap.size + 1 ≠ L + 1; omega) _) (by show w.heap.size + 1 ≠ L + 1; omega) _) (by show w.heap.size + 1 ≠ L + 1; omega) _,
   Blk.skip (Blk.skip (Blk.skip h.z2 (by show w.heap.size + 1 + 1 ≠ L + 1; omega) _) (by show w.heap.size + 1 + 1 ≠ L + 1; omega) _) (by show w.heap.size + 1 + 1 ≠ L + 1; omega) _,
   Blk.skip (Blk.skip (Blk.skip h.lo (by show L ≠ L + 1; omega) _) (by show L ≠ L + 1; omega) _) (by show L ≠ L + 1; omega) _,
   ((h.hi.put 0 _).put 1 _).put 2 _,
   ((h.bel.setCell (by show w.heap.size ≤ L + 1; omega) _).setCell (by show w.heap.size ≤ L + 1; omega) _).setCell (by show w.heap.size ≤ L + 1; omega) _⟩
attribute [local go_sem] dir_ix0 dir_ix1 dir_ix2 dir_ix3
attribute [local go_sem] itA_0 itA_1 itA_2 itA_3 itA_4 itA_5 itA_6 itA_7 itA_8 itA_9 itA_10 itA_11 itA_12 itA_13 itA_14 itA_15 itA_16 itA_17 itA_18 itA_19 itA_20 itA_21
set_option maxRecDepth 100000 in
set_option maxHeartbeats 4000000 in
theorem aext_any (i : It) (harc : i.kind = 3 → arcArg i = true) (w : World) : Calls Tryz.prog 31 #[.agg (itA i)] w fun e w' => e = .returned (.tuple #[.agg (v3A (extI i).1), .agg (v3A (extI i).2)]) ∧ Below w.heap.size w w' := by
  obtain ⟨RL, RH, hR⟩ : ∃ a b, extI i = (a, b) := ⟨_, _, rfl⟩
  rw [hR]
  have HR := Lib.hid hR
  clear hR
  go_enter Tryz.func31, Tryz.ntmps31
  go_upto_region 1 with fail
  refine wp_told (fun W => ItAt W w.heap.size i ∧ Blk W (w.heap.size + 1) 23 #[.int .i64 0, .int .i64 0, .int .i64 0] ∧ Blk W (w.heap.size + 1 + 1) 23 #[.int .i64 0, .int .i64 0, .int .i64 0] ∧ Below w.heap.size w W)
    ⟨((ItAt.new w i).alloc _).alloc _, (blk_new1 w _ _ _).alloc _, blk_new2 w _ _ _ _, (by (repeat (first | exact Below.refl _ _ | refine Below.drew ?_ | refine Below.alloc ?_ (by first | exact Nat.le_refl _ | (simp; done) | (simp; omega)) _)))⟩ ?_
  rintro W1 ⟨h1, h2, h3, bel1⟩
  have c2 := h1.c2
  have c3 := h1.c3
  have c4 := h1.c4
  have c5 := h1.c5
  have c6 := h1.c6
  have c7 := h1.c7
  have H1 := Lib.hid h1
  have H2 := Lib.hid h2
  have H3 := Lib.hid h3
  have B1 := Lib.hid bel1
  have l3 := h3.lt
  clear h1 h2 h3 bel1
  go_wp2_with fail
  refine (box_any i.fx i.fy i.fz i.tx i.ty i.tz W1).mono ?_
  rintro e W2 ⟨rfl, b2⟩
  have l2 := b2.size
  have HX0 := (⟨(H1.out.below b2).alloc _ |>.alloc _, ((H2.out.below b2 H2.out.lt).alloc _).alloc _, ((H3.out.below b2 H3.out.lt).alloc _).alloc _, (Blk.new W2 _ _).alloc _, blk_new1 W2 _ _ _, ((B1.out.trans (b2.mono B1.out.size)).alloc (by omega) _).alloc (by simp; omega) _⟩ : XS w i W2.heap.size (boxLo i.from3 i.to3) (boxHi i.from3 i.to3) ((W2.alloc (.cells (v3A (boxLo i.from3 i.to3)) 23)).alloc (.cells (v3A (boxHi i.from3 i.to3)) 23)))
  have HX0 := Lib.hid HX0
  have hL : w.heap.size + 1 + 1 < W2.heap.size := by omega
  clear c2 c3 c4 c5 c6 c7 H1 H2 H3 B1 l3 l2 b2
  go_upto_region 2 with fail
  obtain ⟨L, hLe⟩ : ∃ L, W2.heap.size = L := ⟨_, rfl⟩
  refine wp_told (fun W => XS w i W2.heap.size (boxLo i.from3 i.to3) (boxHi i.from3 i.to3) W) HX0.out ?_
  clear HX0
  rintro W3 hx3
  rw [hLe] at hx3 hL ⊢
  clear hLe
  obtain ⟨lo, hlo⟩ : ∃ l, boxLo i.from3 i.to3 = l := ⟨_, rfl⟩
  obtain ⟨hi, hhi⟩ : ∃ l, boxHi i.from3 i.to3 = l := ⟨_, rfl⟩
  rw [hlo, hhi] at hx3
  have HLO := Lib.hid hlo
  have HHI := Lib.hid hhi
  have c0 := hx3.i.c0
  have HX := Lib.hid hx3
  clear hlo hhi hx3
  by_cases hk : i.kind = 3
  rotate_left
  · have k0 : (i.kind != 3) = true := by simpa using hk
    have ER : RL = lo ∧ RH = hi := by
      have := HR.out
      unfold extI at this
      rw [if_neg hk, HLO.out, HHI.out] at this
      injection this with e1 e2
      exact ⟨e1.symm, e2.symm⟩
    obtain ⟨rfl, rfl⟩ := ER
    clear hk
    have y0 := HX.out.z1.frozen 0
    have y1 := HX.out.z1.frozen 1
    have y2 := HX.out.z1.frozen 2
    have x0 := HX.out.z2.frozen 0
    have x1 := HX.out.z2.frozen 1
    have x2 := HX.out.z2.frozen 2
    have v0 : W3.cell? ⟨w.heap.size + 1, 0, none⟩ = some (.int .i64 0) := HX.out.z1.cell' 0 rfl
    have v1 : W3.cell? ⟨w.heap.size + 1, 1, none⟩ = some (.int .i64 0) := HX.out.z1.cell' 1 rfl
    have v2 : W3.cell? ⟨w.heap.size + 1, 2, none⟩ = some (.int .i64 0) := HX.out.z1.cell' 2 rfl
    have u0 : W3.cell? ⟨w.heap.size + 1 + 1, 0, none⟩ = some (.int .i64 0) := HX.out.z2.cell' 0 rfl
    have u1 : W3.cell? ⟨w.heap.size + 1 + 1, 1, none⟩ = some (.int .i64 0) := HX.out.z2.cell' 1 rfl
    have u2 : W3.cell? ⟨w.heap.size + 1 + 1, 2, none⟩ = some (.int .i64 0) := HX.out.z2.cell' 2 rfl
    go_upto_region 15 with fail
    have HK0 := Lib.hid (⟨HX.out.lo.drew, HX.out.hi.drew⟩ : XE L RL RH W3.drew)
    have hS0 := HK0.out
    refine region_L (XE L RL RH) [3] (by kernel_rfl) ?_
    refine take_L 0 (v := .agg #[.int .i64 RL.1, .int .i64 RL.2.1, .int .i64 RL.2.2]) rfl (by kernel_rfl) (by kernel_rfl) (by kernel_rfl) (by kernel_rfl) (fun _ _ _ h => h) rfl (fun W' hW' => by have q0 : W'.cell? ⟨L, 0, none⟩ = some (.int .i64 RL.1) := hW'.lo.cell' 0 rfl; have q1 : W'.cell? ⟨L, 1, none⟩ = some (.int .i64 RL.2.1) := hW'.lo.cell' 1 rfl; have q2 : W'.cell? ⟨L, 2, none⟩ = some (.int .i64 RL.2.2) := hW'.lo.cell' 2 rfl; go_simp) hS0 ?_
    refine take_L 1 (v := .agg #[.int .i64 RH.1, .int .i64 RH.2.1, .int .i64 RH.2.2]) rfl (by kernel_rfl) (by kernel_rfl) (by kernel_rfl) (by kernel_rfl) (fun _ _ _ h => h) rfl (fun W' hW' => by have q0 : W'.cell? ⟨L + 1, 0, none⟩ = some (.int .i64 RH.1) := hW'.hi.cell' 0 rfl; have q1 : W'.cell? ⟨L + 1, 1, none⟩ = some (.int .i64 RH.2.1) := hW'.hi.cell' 1 rfl; have q2 : W'.cell? ⟨L + 1, 2, none⟩ = some (.int .i64 RH.2.2) := hW'.hi.cell' 2 rfl; go_simp) hS0 ?_
    clear hS0
    refine one_L 2 (by kernel_rfl) rfl rfl fun K2 hK2 => ?_
    have HK2 := Lib.hid hK2
    clear hK2
    go_simp
    refine HK2.out _ _ (fun _ _ => ⟨(HX.out.drew.far hL _ _ _).1, (HX.out.drew.far hL _ _ _).2⟩) ?_
    refine one_L 3 (by kernel_rfl) rfl rfl fun K3 hK3 => ?_
    have HK3 := Lib.hid hK3
    clear hK3
    go_simp
    refine HK3.out _ _ (fun h => absurd h (by decide)) ?_
    refine done_L (by kernel_rfl) ?_ _
    clear HK2 HK3 HK0
    go_simp
    go_wp2_with fail
    refine bodyPost_ret (results_cc rfl rfl (show Blk _ (w.heap.size + 1) 23 (v3A RL) from Blk.drew (Blk.skip (Blk.skip (Blk.skip (((HX.out.z1.put 0 _).put 1 _).put 2 _) (by simp) _) (by simp) _) (by simp) _)) Tryz.underlying23 rfl (by kernel_rfl) rfl (show Blk _ (w.heap.size + 1 + 1) 23 (v3A RH) from Blk.drew ((((Blk.skip (Blk.skip (Blk.skip HX.out.z2 (by simp) _) (by simp) _) (by simp) _).put 0 _).put 1 _).put 2 _)) Tryz.underlying23 rfl (by kernel_rfl)) rfl ?_
    exact ⟨rfl, ((((((HX.out.bel.setCell (by show w.heap.size ≤ w.heap.size + 1; omega) _).setCell (by show w.heap.size ≤ w.heap.size + 1; omega) _).setCell (by show w.heap.size ≤ w.heap.size + 1; omega) _).setCell (by show w.heap.size ≤ w.heap.size + 1 + 1; omega) _).setCell (by show w.heap.size ≤ w.heap.size + 1 + 1; omega) _).setCell (by show w.heap.size ≤ w.heap.size + 1 + 1; omega) _).drew⟩
  · have k0 : (i.kind != 3) = false := by simpa using hk
    have hag := harc hk
    unfold arcArg at hag
    simp only [Bool.and_eq_true, decide_eq_true_eq] at hag
    obtain ⟨_, _, hwf, hwt, hwc, _, _⟩ := hag
    have bf := fl_bd (p := i.plane) hwf
    have bt := fl_bd (p := i.plane) hwt
    have bc := fl_bd (p := i.plane) hwc
    have b1 : -1048576 ≤ i.fU ∧ i.fU ≤ 1048576 := bf.1
    have b2 : -1048576 ≤ i.fW ∧ i.fW ≤ 1048576 := bf.2
    have b3 : -1048576 ≤ i.tU ∧ i.tU ≤ 1048576 := bt.1
    have b4 : -1048576 ≤ i.tW ∧ i.tW ≤ 1048576 := bt.2
    have b5 : -1048576 ≤ i.cU ∧ i.cU ≤ 1048576 := bc.1
    have b6 : -1048576 ≤ i.cW ∧ i.cW ≤ 1048576 := bc.2
    have e1 : wS i.fU i.cU = i.fU - i.cU := wS_eq (by omega)
    have e2 : wS i.fW i.cW = i.fW - i.cW := wS_eq (by omega)
    have e3 : wS i.tU i.cU = i.tU - i.cU := wS_eq (by omega)
    have e4 : wS i.tW i.cW = i.tW - i.cW := wS_eq (by omega)
    have hau : Sm (wS i.fU i.cU) := by unfold Sm; omega
    have haw : Sm (wS i.fW i.cW) := by unfold Sm; omega
    have hbu : Sm (wS i.tU i.cU) := by unfold Sm; omega
    have hbw : Sm (wS i.tW i.cW) := by unfold Sm; omega
    have n1 := inn_self (wS i.fU i.cU) (wS i.fW i.cW) (by omega) (by omega)
    have n2 := inn_self (wS i.tU i.cU) (wS i.tW i.cW) (by omega) (by omega)
    have KI1 := fun W => inner_any _ _ _ _ hau haw hau haw W
    have KI2 := fun W => inner_any _ _ _ _ hbu hbw hbu hbw W
    have KS := Lib.hid (spokes_any i)
    obtain ⟨r0, hr0⟩ : ∃ r, extR i = r := ⟨_, rfl⟩
    have hrr := hr0
    unfold extR at hrr
    generalize hm1 : inn (wS i.fU i.cU) (wS i.fW i.cW) (wS i.fU i.cU) (wS i.fW i.cW) = m1 at KI1 n1 hrr
    generalize hm2 : inn (wS i.tU i.cU) (wS i.tW i.cW) (wS i.tU i.cU) (wS i.tW i.cW) = m2 at KI2 n2 hrr
    obtain ⟨m, hm⟩ : ∃ m : Nat, mxI m1 m2 = (m : Int) := ⟨(mxI m1 m2).toNat, by unfold mxI; split <;> omega⟩
    have hml : m ≤ 35184372088832 := by have := hm; unfold mxI at this; split at this <;> omega
    rw [hm, Int.toNat_natCast] at hrr
    have hrl : upR m ≤ 8388608 := upR_le (by omega)
    rw [hrr] at hrl
    have KQ := wsqrt_up m (by omega)
    rw [hrr] at KQ
    have hmx : (if m1 < m2 then m2 else m1) = (m : Int) := hm
    obtain ⟨r, hre⟩ : ∃ r : Int, (r0 : Int) = r := ⟨_, rfl⟩
    rw [hre] at KQ
    have hr1 : 0 ≤ r ∧ r ≤ 8388608 := by omega
    have HRR := Lib.hid (show ((extR i : Nat) : Int) = r by rw [hr0]; exact hre)
    clear hwf hwt hwc bf bt bc hr0 hm hml hrl hrr hm1 hm2 n1 n2 hre e1 e2 e3 e4
    go_wp2_with ((with_reducible refine go_loadI (.tmp 1) w.heap.size i (by with_unfolding_all rfl) HX.out.i ?_))
    refine (KS.out W3).mono ?_
    rintro e W4 ⟨rfl, b4'⟩
    have HX4 := Lib.hid (HX.out.below b4')
    have l4 : L + 1 < W4.heap.size := HX4.out.hi.lt
    clear b4' HX KS c0
    go_upto_region 5 with fail
    refine wp_told (fun W => XS w i L lo hi W ∧ Blk W W4.heap.size 88 #[.int .i64 (wS i.fU i.cU), .int .i64 (wS i.fW i.cW)] ∧ Blk W (W4.heap.size + 1) 88 #[.int .i64 (wS i.tU i.cU), .int .i64 (wS i.tW i.cW)])
      ⟨(HX4.out.alloc _).alloc _, (Blk.new W4 _ _).alloc _, blk_new1 W4 _ _ _⟩ ?_
    clear HX4
    rintro W5 hs5
    obtain ⟨N, hNe⟩ : ∃ N, W4.heap.size = N := ⟨_, rfl⟩
    rw [hNe] at hs5 l4 ⊢
    clear hNe
    let S : World → Prop := fun W => XS w i L lo hi W ∧ Blk W N 88 #[.int .i64 (wS i.fU i.cU), .int .i64 (wS i.fW i.cW)] ∧ Blk W (N + 1) 88 #[.int .i64 (wS i.tU i.cU), .int .i64 (wS i.tW i.cW)]
    have hs : S W5.drew := ⟨hs5.1.drew, hs5.2.1.drew, hs5.2.2.drew⟩
    have inst : Nonempty (At S) := ⟨⟨_, hs⟩⟩
    have SB : ∀ W W', S W → Below W.heap.size W W' → S W' := fun W W' h b => ⟨h.1.below b, h.2.1.below b h.2.1.lt, h.2.2.below b h.2.2.lt⟩
    have I1 := Lib.hid (fun q : At S => (KI1 q.w).mono (fun e w' h => (⟨h.1, SB _ _ q.ok h.2⟩ : e = .returned (.int .i64 m1) ∧ S w')))
    have I2 := Lib.hid (fun q : At S => (KI2 q.w).mono (fun e w' h => (⟨h.1, SB _ _ q.ok h.2⟩ : e = .returned (.int .i64 m2) ∧ S w')))
    have I3 := Lib.hid (fun q : At S => (KQ q.w).mono (fun e w' h => (⟨h.1, SB _ _ q.ok h.2⟩ : e = .returned (.tuple #[.int .i64 r, .bool true]) ∧ S w')))
    have L1 := Lib.hid (fun q : At S => (show (Instr.loadAt 88 (.pointer (some ⟨N, 0, none⟩))).run Tryz.prog q.w = .ok (.agg #[.int .i64 (wS i.fU i.cU), .int .i64 (wS i.fW i.cW)]) q.w from load_of (cs := [.int .i64 (wS i.fU i.cU), .int .i64 (wS i.fW i.cW)]) q.ok.2.1 Tryz.underlying88 rfl (by kernel_rfl)))
    have L2 := Lib.hid (fun q : At S => (show (Instr.loadAt 88 (.pointer (some ⟨N + 1, 0, none⟩))).run Tryz.prog q.w = .ok (.agg #[.int .i64 (wS i.tU i.cU), .int .i64 (wS i.tW i.cW)]) q.w from load_of (cs := [.int .i64 (wS i.tU i.cU), .int .i64 (wS i.tW i.cW)]) q.ok.2.2 Tryz.underlying88 rfl (by kernel_rfl)))
    have HFIN : Hid (∀ q : At S, XS w i L lo hi q.w) := Lib.hid (fun q : At S => q.ok.1)
    clear KI1 KI2 KQ SB hs5
    clear_value S
    refine wp_region_at S (by kernel_rfl) (by kernel_rfl) hs ?_
    try simp only [List.append_eq, List.cons_append, List.nil_append]
    repeat (first
      | (go_big_quiet_want; (first
          | refine quiet_load 88 (.tmp 6) rfl _ _ rfl L1.out ?_
          | refine quiet_load 88 (.tmp 7) rfl _ _ rfl L2.out ?_); simp only [Act.put, List.setIfInBounds_toArray, List.set_cons_zero, List.set_cons_succ]; go_big_quiet_on)
      | go_big_quiet_step (first | with_reducible exact Calls.at_of (I1.out _) fun e w' h => ⟨h.1, h.2⟩ | with_reducible exact Calls.at_of (I2.out _) fun e w' h => ⟨h.1, h.2⟩ | with_reducible exact Calls.at_of (I3.out _) fun e w' h => ⟨h.1, h.2⟩))
    refine wpQuiet_nil ?_
    rintro _ ⟨p, rfl⟩
    have hx6 := HFIN.out p
    generalize p.w = W6 at hx6 ⊢
    clear HFIN inst hs I1 I2 I3 L1 L2
    have HX6 := Lib.hid hx6
    have c8 := hx6.i.c8
    have c9 := hx6.i.c9
    have c10 := hx6.i.c10
    have c11 := hx6.i.c11
    have KF : Calls Tryz.prog 60 #[.int .i64 i.plane, .agg #[.int .i64 i.cx, .int .i64 i.cy, .int .i64 i.cz]] W6 fun e w' => e = .returned (.tuple #[.agg #[.int .i64 i.cU, .int .i64 i.cW], .int .i64 i.cH, .bool (flOk i.plane)]) ∧ Below W6.heap.size W6 w' := flat_any i.plane i.cx i.cy i.cz W6
    have KF := Lib.hid KF
    clear hx6
    go_wp2_with fail
    refine KF.out.mono ?_
    rintro e W7 ⟨rfl, b7⟩
    have HX7 := Lib.hid (HX6.out.below b7)
    have l7 : L + 1 < W7.heap.size := HX7.out.hi.lt
    clear b7 KF c8 c9 c10 c11 HX6
    go_upto_region 7 with fail
    refine wp_told (fun W => XS w i L lo hi W ∧ Blk W W7.heap.size 88 #[.int .i64 i.cU, .int .i64 i.cW]) ⟨HX7.out.alloc _, Blk.new W7 _ _⟩ ?_
    clear HX7
    rintro W8 hs8
    obtain ⟨C, hCe⟩ : ∃ C, W7.heap.size = C := ⟨_, rfl⟩
    rw [hCe] at hs8 l7 ⊢
    clear hCe
    have HS8 := Lib.hid hs8
    clear hs8
    obtain ⟨lo0, hl0⟩ : ∃ l, lo = l := ⟨_, rfl⟩
    obtain ⟨hi0, hh0⟩ : ∃ l, hi = l := ⟨_, rfl⟩
    have HFIN : Hid (dirL.foldl (extS i r) (lo0, hi0) = (RL, RH)) := Lib.hid (by
      have := HR.out
      unfold extI at this
      rw [if_pos hk, HLO.out, HHI.out, HRR.out] at this
      rw [← hl0, ← hh0]
      exact this)
    rw [hl0, hh0] at HS8
    clear hl0 hh0 hk HR HLO HHI HRR lo hi
    go_wp2_with fail
    go_loopw [60] (fun s60 wr => ∃ (k : Nat) (lo hi : V3), k ≤ 4 ∧ s60 = .int .i64 k ∧ (dirL.take k).foldl (extS i r) (lo0, hi0) = (lo, hi) ∧ XS w i L lo hi wr ∧ Blk wr C 88 #[.int .i64 i.cU, .int .i64 i.cW])
      (fun s60 _ => 4 - (intOf s60).toNat)
    case atStart => exact ⟨0, lo0, hi0, by omega, rfl, rfl, HS8.out.1, HS8.out.2⟩
    case round =>
      obtain ⟨k, lo, hi, hk4, rfl, hfo, hx, hc⟩ := hrel
      have HX := Lib.hid hx
      have HC := Lib.hid hc
      have HFO := Lib.hid hfo
      have szr := hc.lt
      clear hx hc hfo HS8
      by_cases hk3 : k < 4
      · have hcase : k = 0 ∨ k = 1 ∨ k = 2 ∨ k = 3 := by omega
        clear hk4 hk3
        rcases hcase with rfl | rfl | rfl | rfl
        · skip
          go_upto_region 10 with fail
          refine wp_told (fun W => ∃ d1 d2 : Int, dirL[0]? = some (d1, d2) ∧ (-1 ≤ d1 ∧ d1 ≤ 1) ∧ (-1 ≤ d2 ∧ d2 ≤ 1) ∧ XS w i L lo hi W ∧ Blk W C 88 #[.int .i64 i.cU, .int .i64 i.cW] ∧ Blk W wr.heap.size 88 #[.int .i64 d1, .int .i64 d2]) ⟨1, 0, rfl, by decide, by decide, HX.out.alloc _, HC.out.alloc _, Blk.new _ _ _⟩ ?_
          rintro W6 ⟨d1, d2, hd, hd1, hd2, hx6, hc6, ht6⟩
          have hT : C < wr.heap.size := HC.out.lt
          obtain ⟨T, hTe⟩ : ∃ T, wr.heap.size = T := ⟨_, rfl⟩
          rw [hTe] at ht6 hT ⊢
          have HD := Lib.hid hd
          have t0 := ht6.cell' 0 rfl
          have t1 := ht6.cell' 1 rfl
          have HX6 := Lib.hid hx6
          have HC6 := Lib.hid hc6
          have HT6 := Lib.hid ht6
          clear hTe hd hx6 hc6 ht6 HX HC szr
          have KN := Lib.hid (inside_any i d1 d2 hau haw hbu hbw (by unfold Sm; omega) (by unfold Sm; omega) W6)
          obtain ⟨ins, hins⟩ : ∃ b, insV i d1 d2 = b := ⟨_, rfl⟩
          rw [hins] at KN
          have HIN := Lib.hid hins
          clear hins
          go_wp2_with ((with_reducible refine go_loadI (.tmp 1) w.heap.size i (by with_unfolding_all rfl) HX6.out.i ?_))
          refine KN.out.mono ?_
          rintro e W7 ⟨rfl, b7⟩
          have HX7 := Lib.hid (HX6.out.below b7)
          have HC7 := Lib.hid (HC6.out.below b7 HC6.out.lt)
          have HT7 := Lib.hid (HT6.out.below b7 HT6.out.lt)
          clear b7 KN t0 t1 HX6 HC6 HT6
          cases ins
          · go_wp2_with fail
            go_roundw
            case rel => exact ⟨1, lo, hi, by omega, by go_num, by rw [take_snoc HD.out, List.foldl_append, HFO.out]; show extS i r (lo, hi) (d1, d2) = _; unfold extS; rw [if_neg (by rw [HIN.out]; decide)], HX7.out, HC7.out⟩
            case measure => simp [intOf] <;> omega
          · have p8 := HX7.out.i.c8
            have q0 : W7.cell? ⟨C, 0, none⟩ = some (.int .i64 i.cU) := HC7.out.cell' 0 rfl
            have q1 : W7.cell? ⟨C, 1, none⟩ = some (.int .i64 i.cW) := HC7.out.cell' 1 rfl
            have t0 : W7.cell? ⟨T, 0, none⟩ = some (.int .i64 d1) := HT7.out.cell' 0 rfl
            have t1 : W7.cell? ⟨T, 1, none⟩ = some (.int .i64 d2) := HT7.out.cell' 1 rfl
            have m1 := mul_bd (B := 8388608) (by decide) (show -8388608 ≤ r ∧ r ≤ 8388608 by omega) (show -8388608 ≤ d1 ∧ d1 ≤ 8388608 by omega)
            have m2 := mul_bd (B := 8388608) (by decide) (show -8388608 ≤ r ∧ r ≤ 8388608 by omega) (show -8388608 ≤ d2 ∧ d2 ≤ 8388608 by omega)
            have w1 : IntKind.i64.wrap (r * d1) = r * d1 := by rw [IntKind.wrap_i64]; omega
            have w2 : IntKind.i64.wrap (r * d2) = r * d2 := by rw [IntKind.wrap_i64]; omega
            have w3 : IntKind.i64.wrap (i.cU + r * d1) = i.cU + r * d1 := by rw [IntKind.wrap_i64]; omega
            have w4 : IntKind.i64.wrap (i.cW + r * d2) = i.cW + r * d2 := by rw [IntKind.wrap_i64]; omega
            have KSO := Lib.hid (solid_any i.plane (i.cU + r * d1) (i.cW + r * d2) i.cH W7)
            clear m1 m2
            go_wp2_with fail
            with_reducible refine KSO.out.mono ?_
            rintro e W8 ⟨rfl, b8⟩
            have HX8 := Lib.hid (HX7.out.below b8)
            have HC8 := Lib.hid (HC7.out.below b8 HC7.out.lt)
            have sz8 := b8.size
            have lC : C < W8.heap.size := HC8.out.lt
            clear b8 KSO p8 q0 q1 t0 t1 w1 w2 w3 w4 HX7 HC7 HT7
            go_upto_region 12 with fail
            refine wp_told (fun W => ∃ q : V3, q = extP i r (d1, d2) ∧ XS w i L lo hi W ∧ Blk W C 88 #[.int .i64 i.cU, .int .i64 i.cW] ∧ Blk W W8.heap.size 23 #[.int .i64 q.1, .int .i64 q.2.1, .int .i64 q.2.2]) ⟨_, rfl, HX8.out.alloc _, HC8.out.alloc _, Blk.new _ _ _⟩ ?_
            clear HX8 HC8
            rintro W9 ⟨⟨qx, qy, qz⟩, hq, hx9, hc9, hp9⟩
            obtain ⟨E, hEe⟩ : ∃ T, W8.heap.size = T := ⟨_, rfl⟩
            rw [hEe] at hp9 lC ⊢
            have HQ := Lib.hid hq
            have e0 : W9.cell? ⟨E, 0, none⟩ = some (.int .i64 qx) := hp9.cell' 0 rfl
            have e1 : W9.cell? ⟨E, 1, none⟩ = some (.int .i64 qy) := hp9.cell' 1 rfl
            have e2 : W9.cell? ⟨E, 2, none⟩ = some (.int .i64 qz) := hp9.cell' 2 rfl
            have l0 : W9.cell? ⟨L, 0, none⟩ = some (.int .i64 lo.1) := hx9.lo.cell' 0 rfl
            have l1 : W9.cell? ⟨L, 1, none⟩ = some (.int .i64 lo.2.1) := hx9.lo.cell' 1 rfl
            have l2 : W9.cell? ⟨L, 2, none⟩ = some (.int .i64 lo.2.2) := hx9.lo.cell' 2 rfl
            have HX9 := Lib.hid hx9
            have HC9 := Lib.hid hc9
            have HP9 := Lib.hid hp9
            clear hEe hq hx9 hc9 hp9 sz8
            go_wp2_with fail
            with_reducible refine (box_any lo.1 lo.2.1 lo.2.2 qx qy qz W9).mono ?_
            rintro e W10 ⟨rfl, b10⟩
            have hx10 := HX9.out.below b10
            have HC10 := Lib.hid (HC9.out.below b10 HC9.out.lt)
            have HP10 := Lib.hid (HP9.out.below b10 HP9.out.lt)
            clear b10 e0 e1 e2 l0 l1 l2 HX9 HC9 HP9
            have f0 := hx10.lo.frozen 0
            have f1 := hx10.lo.frozen 1
            have f2 := hx10.lo.frozen 2
            have l0 : W10.cell? ⟨L, 0, none⟩ = some (.int .i64 lo.1) := hx10.lo.cell' 0 rfl
            have l1 : W10.cell? ⟨L, 1, none⟩ = some (.int .i64 lo.2.1) := hx10.lo.cell' 1 rfl
            have l2 : W10.cell? ⟨L, 2, none⟩ = some (.int .i64 lo.2.2) := hx10.lo.cell' 2 rfl
            have HX10 := Lib.hid hx10
            clear hx10
            go_upto_region 13 with fail
            refine wp_told (fun W => XS w i L (boxLo lo (qx, qy, qz)) hi W ∧ Blk W C 88 #[.int .i64 i.cU, .int .i64 i.cW] ∧ Blk W E 23 #[.int .i64 qx, .int .i64 qy, .int .i64 qz]) ⟨HX10.out.setlo hL (boxLo lo (qx, qy, qz)), Blk.skip (Blk.skip (Blk.skip HC10.out (by show C ≠ L; omega) _) (by show C ≠ L; omega) _) (by show C ≠ L; omega) _, Blk.skip (Blk.skip (Blk.skip HP10.out (by show E ≠ L; omega) _) (by show E ≠ L; omega) _) (by show E ≠ L; omega) _⟩ ?_
            clear f0 f1 f2 l0 l1 l2 HX10 HC10 HP10
            rintro W11 ⟨hx11, hc11, hp11⟩
            have e0 : W11.cell? ⟨E, 0, none⟩ = some (.int .i64 qx) := hp11.cell' 0 rfl
            have e1 : W11.cell? ⟨E, 1, none⟩ = some (.int .i64 qy) := hp11.cell' 1 rfl
            have e2 : W11.cell? ⟨E, 2, none⟩ = some (.int .i64 qz) := hp11.cell' 2 rfl
            have l0 : W11.cell? ⟨L + 1, 0, none⟩ = some (.int .i64 hi.1) := hx11.hi.cell' 0 rfl
            have l1 : W11.cell? ⟨L + 1, 1, none⟩ = some (.int .i64 hi.2.1) := hx11.hi.cell' 1 rfl
            have l2 : W11.cell? ⟨L + 1, 2, none⟩ = some (.int .i64 hi.2.2) := hx11.hi.cell' 2 rfl
            have HX11 := Lib.hid hx11
            have HC11 := Lib.hid hc11
            clear hx11 hc11 hp11
            go_wp2_with fail
            with_reducible refine (box_any hi.1 hi.2.1 hi.2.2 qx qy qz W11).mono ?_
            rintro e W12 ⟨rfl, b12⟩
            have hx12 := HX11.out.below b12
            have HC12 := Lib.hid (HC11.out.below b12 HC11.out.lt)
            clear b12 e0 e1 e2 l0 l1 l2 HX11 HC11
            have f0 := hx12.hi.frozen 0
            have f1 := hx12.hi.frozen 1
            have f2 := hx12.hi.frozen 2
            have l0 : W12.cell? ⟨L + 1, 0, none⟩ = some (.int .i64 hi.1) := hx12.hi.cell' 0 rfl
            have l1 : W12.cell? ⟨L + 1, 1, none⟩ = some (.int .i64 hi.2.1) := hx12.hi.cell' 1 rfl
            have l2 : W12.cell? ⟨L + 1, 2, none⟩ = some (.int .i64 hi.2.2) := hx12.hi.cell' 2 rfl
            have HX12 := Lib.hid hx12
            clear hx12
            go_wp2_with fail
            go_roundw
            case rel => exact ⟨1, boxLo lo (qx, qy, qz), boxHi hi (qx, qy, qz), by omega, by go_num, by rw [take_snoc HD.out, List.foldl_append, HFO.out]; show extS i r (lo, hi) (d1, d2) = _; unfold extS; rw [if_pos HIN.out, ← HQ.out], HX12.out.sethi hL (boxHi hi (qx, qy, qz)), Blk.skip (Blk.skip (Blk.skip HC12.out (by show C ≠ L + 1; omega) _) (by show C ≠ L + 1; omega) _) (by show C ≠ L + 1; omega) _⟩
            case measure => simp [intOf] <;> omega
        · skip
          go_upto_region 10 with fail
          refine wp_told (fun W => ∃ d1 d2 : Int, dirL[1]? = some (d1, d2) ∧ (-1 ≤ d1 ∧ d1 ≤ 1) ∧ (-1 ≤ d2 ∧ d2 ≤ 1) ∧ XS w i L lo hi W ∧ Blk W C 88 #[.int .i64 i.cU, .int .i64 i.cW] ∧ Blk W wr.heap.size 88 #[.int .i64 d1, .int .i64 d2]) ⟨0, 1, rfl, by decide, by decide, HX.out.alloc _, HC.out.alloc _, Blk.new _ _ _⟩ ?_
          rintro W6 ⟨d1, d2, hd, hd1, hd2, hx6, hc6, ht6⟩
          have hT : C < wr.heap.size := HC.out.lt
          obtain ⟨T, hTe⟩ : ∃ T, wr.heap.size = T := ⟨_, rfl⟩
          rw [hTe] at ht6 hT ⊢
          have HD := Lib.hid hd
          have t0 := ht6.cell' 0 rfl
          have t1 := ht6.cell' 1 rfl
          have HX6 := Lib.hid hx6
          have HC6 := Lib.hid hc6
          have HT6 := Lib.hid ht6
          clear hTe hd hx6 hc6 ht6 HX HC szr
          have KN := Lib.hid (inside_any i d1 d2 hau haw hbu hbw (by unfold Sm; omega) (by unfold Sm; omega) W6)
          obtain ⟨ins, hins⟩ : ∃ b, insV i d1 d2 = b := ⟨_, rfl⟩
          rw [hins] at KN
          have HIN := Lib.hid hins
          clear hins
          go_wp2_with ((with_reducible refine go_loadI (.tmp 1) w.heap.size i (by with_unfolding_all rfl) HX6.out.i ?_))
          refine KN.out.mono ?_
          rintro e W7 ⟨rfl, b7⟩
          have HX7 := Lib.hid (HX6.out.below b7)
          have HC7 := Lib.hid (HC6.out.below b7 HC6.out.lt)
          have HT7 := Lib.hid (HT6.out.below b7 HT6.out.lt)
          clear b7 KN t0 t1 HX6 HC6 HT6
          cases ins
          · go_wp2_with fail
            go_roundw
            case rel => exact ⟨2, lo, hi, by omega, by go_num, by rw [take_snoc HD.out, List.foldl_append, HFO.out]; show extS i r (lo, hi) (d1, d2) = _; unfold extS; rw [if_neg (by rw [HIN.out]; decide)], HX7.out, HC7.out⟩
            case measure => simp [intOf] <;> omega
          · have p8 := HX7.out.i.c8
            have q0 : W7.cell? ⟨C, 0, none⟩ = some (.int .i64 i.cU) := HC7.out.cell' 0 rfl
            have q1 : W7.cell? ⟨C, 1, none⟩ = some (.int .i64 i.cW) := HC7.out.cell' 1 rfl
            have t0 : W7.cell? ⟨T, 0, none⟩ = some (.int .i64 d1) := HT7.out.cell' 0 rfl
            have t1 : W7.cell? ⟨T, 1, none⟩ = some (.int .i64 d2) := HT7.out.cell' 1 rfl
            have m1 := mul_bd (B := 8388608) (by decide) (show -8388608 ≤ r ∧ r ≤ 8388608 by omega) (show -8388608 ≤ d1 ∧ d1 ≤ 8388608 by omega)
            have m2 := mul_bd (B := 8388608) (by decide) (show -8388608 ≤ r ∧ r ≤ 8388608 by omega) (show -8388608 ≤ d2 ∧ d2 ≤ 8388608 by omega)
            have w1 : IntKind.i64.wrap (r * d1) = r * d1 := by rw [IntKind.wrap_i64]; omega
            have w2 : IntKind.i64.wrap (r * d2) = r * d2 := by rw [IntKind.wrap_i64]; omega
            have w3 : IntKind.i64.wrap (i.cU + r * d1) = i.cU + r * d1 := by rw [IntKind.wrap_i64]; omega
            have w4 : IntKind.i64.wrap (i.cW + r * d2) = i.cW + r * d2 := by rw [IntKind.wrap_i64]; omega
            have KSO := Lib.hid (solid_any i.plane (i.cU + r * d1) (i.cW + r * d2) i.cH W7)
            clear m1 m2
            go_wp2_with fail
            with_reducible refine KSO.out.mono ?_
            rintro e W8 ⟨rfl, b8⟩
            have HX8 := Lib.hid (HX7.out.below b8)
            have HC8 := Lib.hid (HC7.out.below b8 HC7.out.lt)
            have sz8 := b8.size
            have lC : C < W8.heap.size := HC8.out.lt
            clear b8 KSO p8 q0 q1 t0 t1 w1 w2 w3 w4 HX7 HC7 HT7
            go_upto_region 12 with fail
            refine wp_told (fun W => ∃ q : V3, q = extP i r (d1, d2) ∧ XS w i L lo hi W ∧ Blk W C 88 #[.int .i64 i.cU, .int .i64 i.cW] ∧ Blk W W8.heap.size 23 #[.int .i64 q.1, .int .i64 q.2.1, .int .i64 q.2.2]) ⟨_, rfl, HX8.out.alloc _, HC8.out.alloc _, Blk.new _ _ _⟩ ?_
            clear HX8 HC8
            rintro W9 ⟨⟨qx, qy, qz⟩, hq, hx9, hc9, hp9⟩
            obtain ⟨E, hEe⟩ : ∃ T, W8.heap.size = T := ⟨_, rfl⟩
            rw [hEe] at hp9 lC ⊢
            have HQ := Lib.hid hq
            have e0 : W9.cell? ⟨E, 0, none⟩ = some (.int .i64 qx) := hp9.cell' 0 rfl
            have e1 : W9.cell? ⟨E, 1, none⟩ = some (.int .i64 qy) := hp9.cell' 1 rfl
            have e2 : W9.cell? ⟨E, 2, none⟩ = some (.int .i64 qz) := hp9.cell' 2 rfl
            have l0 : W9.cell? ⟨L, 0, none⟩ = some (.int .i64 lo.1) := hx9.lo.cell' 0 rfl
            have l1 : W9.cell? ⟨L, 1, none⟩ = some (.int .i64 lo.2.1) := hx9.lo.cell' 1 rfl
            have l2 : W9.cell? ⟨L, 2, none⟩ = some (.int .i64 lo.2.2) := hx9.lo.cell' 2 rfl
            have HX9 := Lib.hid hx9
            have HC9 := Lib.hid hc9
            have HP9 := Lib.hid hp9
            clear hEe hq hx9 hc9 hp9 sz8
            go_wp2_with fail
            with_reducible refine (box_any lo.1 lo.2.1 lo.2.2 qx qy qz W9).mono ?_
            rintro e W10 ⟨rfl, b10⟩
            have hx10 := HX9.out.below b10
            have HC10 := Lib.hid (HC9.out.below b10 HC9.out.lt)
            have HP10 := Lib.hid (HP9.out.below b10 HP9.out.lt)
            clear b10 e0 e1 e2 l0 l1 l2 HX9 HC9 HP9
            have f0 := hx10.lo.frozen 0
            have f1 := hx10.lo.frozen 1
            have f2 := hx10.lo.frozen 2
            have l0 : W10.cell? ⟨L, 0, none⟩ = some (.int .i64 lo.1) := hx10.lo.cell' 0 rfl
            have l1 : W10.cell? ⟨L, 1, none⟩ = some (.int .i64 lo.2.1) := hx10.lo.cell' 1 rfl
            have l2 : W10.cell? ⟨L, 2, none⟩ = some (.int .i64 lo.2.2) := hx10.lo.cell' 2 rfl
            have HX10 := Lib.hid hx10
            clear hx10
            go_upto_region 13 with fail
            refine wp_told (fun W => XS w i L (boxLo lo (qx, qy, qz)) hi W ∧ Blk W C 88 #[.int .i64 i.cU, .int .i64 i.cW] ∧ Blk W E 23 #[.int .i64 qx, .int .i64 qy, .int .i64 qz]) ⟨HX10.out.setlo hL (boxLo lo (qx, qy, qz)), Blk.skip (Blk.skip (Blk.skip HC10.out (by show C ≠ L; omega) _) (by show C ≠ L; omega) _) (by show C ≠ L; omega) _, Blk.skip (Blk.skip (Blk.skip HP10.out (by show E ≠ L; omega) _) (by show E ≠ L; omega) _) (by show E ≠ L; omega) _⟩ ?_
            clear f0 f1 f2 l0 l1 l2 HX10 HC10 HP10
            rintro W11 ⟨hx11, hc11, hp11⟩
            have e0 : W11.cell? ⟨E, 0, none⟩ = some (.int .i64 qx) := hp11.cell' 0 rfl
            have e1 : W11.cell? ⟨E, 1, none⟩ = some (.int .i64 qy) := hp11.cell' 1 rfl
            have e2 : W11.cell? ⟨E, 2, none⟩ = some (.int .i64 qz) := hp11.cell' 2 rfl
            have l0 : W11.cell? ⟨L + 1, 0, none⟩ = some (.int .i64 hi.1) := hx11.hi.cell' 0 rfl
            have l1 : W11.cell? ⟨L + 1, 1, none⟩ = some (.int .i64 hi.2.1) := hx11.hi.cell' 1 rfl
            have l2 : W11.cell? ⟨L + 1, 2, none⟩ = some (.int .i64 hi.2.2) := hx11.hi.cell' 2 rfl
            have HX11 := Lib.hid hx11
            have HC11 := Lib.hid hc11
            clear hx11 hc11 hp11
            go_wp2_with fail
            with_reducible refine (box_any hi.1 hi.2.1 hi.2.2 qx qy qz W11).mono ?_
            rintro e W12 ⟨rfl, b12⟩
            have hx12 := HX11.out.below b12
            have HC12 := Lib.hid (HC11.out.below b12 HC11.out.lt)
            clear b12 e0 e1 e2 l0 l1 l2 HX11 HC11
            have f0 := hx12.hi.frozen 0
            have f1 := hx12.hi.frozen 1
            have f2 := hx12.hi.frozen 2
            have l0 : W12.cell? ⟨L + 1, 0, none⟩ = some (.int .i64 hi.1) := hx12.hi.cell' 0 rfl
            have l1 : W12.cell? ⟨L + 1, 1, none⟩ = some (.int .i64 hi.2.1) := hx12.hi.cell' 1 rfl
            have l2 : W12.cell? ⟨L + 1, 2, none⟩ = some (.int .i64 hi.2.2) := hx12.hi.cell' 2 rfl
            have HX12 := Lib.hid hx12
            clear hx12
            go_wp2_with fail
            go_roundw
            case rel => exact ⟨2, boxLo lo (qx, qy, qz), boxHi hi (qx, qy, qz), by omega, by go_num, by rw [take_snoc HD.out, List.foldl_append, HFO.out]; show extS i r (lo, hi) (d1, d2) = _; unfold extS; rw [if_pos HIN.out, ← HQ.out], HX12.out.sethi hL (boxHi hi (qx, qy, qz)), Blk.skip (Blk.skip (Blk.skip HC12.out (by show C ≠ L + 1; omega) _) (by show C ≠ L + 1; omega) _) (by show C ≠ L + 1; omega) _⟩
            case measure => simp [intOf] <;> omega
        · skip
          go_upto_region 10 with fail
          refine wp_told (fun W => ∃ d1 d2 : Int, dirL[2]? = some (d1, d2) ∧ (-1 ≤ d1 ∧ d1 ≤ 1) ∧ (-1 ≤ d2 ∧ d2 ≤ 1) ∧ XS w i L lo hi W ∧ Blk W C 88 #[.int .i64 i.cU, .int .i64 i.cW] ∧ Blk W wr.heap.size 88 #[.int .i64 d1, .int .i64 d2]) ⟨-1, 0, rfl, by decide, by decide, HX.out.alloc _, HC.out.alloc _, Blk.new _ _ _⟩ ?_
          rintro W6 ⟨d1, d2, hd, hd1, hd2, hx6, hc6, ht6⟩
          have hT : C < wr.heap.size := HC.out.lt
          obtain ⟨T, hTe⟩ : ∃ T, wr.heap.size = T := ⟨_, rfl⟩
          rw [hTe] at ht6 hT ⊢
          have HD := Lib.hid hd
          have t0 := ht6.cell' 0 rfl
          have t1 := ht6.cell' 1 rfl
          have HX6 := Lib.hid hx6
          have HC6 := Lib.hid hc6
          have HT6 := Lib.hid ht6
          clear hTe hd hx6 hc6 ht6 HX HC szr
          have KN := Lib.hid (inside_any i d1 d2 hau haw hbu hbw (by unfold Sm; omega) (by unfold Sm; omega) W6)
          obtain ⟨ins, hins⟩ : ∃ b, insV i d1 d2 = b := ⟨_, rfl⟩
          rw [hins] at KN
          have HIN := Lib.hid hins
          clear hins
          go_wp2_with ((with_reducible refine go_loadI (.tmp 1) w.heap.size i (by with_unfolding_all rfl) HX6.out.i ?_))
          refine KN.out.mono ?_
          rintro e W7 ⟨rfl, b7⟩
          have HX7 := Lib.hid (HX6.out.below b7)
          have HC7 := Lib.hid (HC6.out.below b7 HC6.out.lt)
          have HT7 := Lib.hid (HT6.out.below b7 HT6.out.lt)
          clear b7 KN t0 t1 HX6 HC6 HT6
          cases ins
          · go_wp2_with fail
            go_roundw
            case rel => exact ⟨3, lo, hi, by omega, by go_num, by rw [take_snoc HD.out, List.foldl_append, HFO.out]; show extS i r (lo, hi) (d1, d2) = _; unfold extS; rw [if_neg (by rw [HIN.out]; decide)], HX7.out, HC7.out⟩
            case measure => simp [intOf] <;> omega
          · have p8 := HX7.out.i.c8
            have q0 : W7.cell? ⟨C, 0, none⟩ = some (.int .i64 i.cU) := HC7.out.cell' 0 rfl
            have q1 : W7.cell? ⟨C, 1, none⟩ = some (.int .i64 i.cW) := HC7.out.cell' 1 rfl
            have t0 : W7.cell? ⟨T, 0, none⟩ = some (.int .i64 d1) := HT7.out.cell' 0 rfl
            have t1 : W7.cell? ⟨T, 1, none⟩ = some (.int .i64 d2) := HT7.out.cell' 1 rfl
            have m1 := mul_bd (B := 8388608) (by decide) (show -8388608 ≤ r ∧ r ≤ 8388608 by omega) (show -8388608 ≤ d1 ∧ d1 ≤ 8388608 by omega)
            have m2 := mul_bd (B := 8388608) (by decide) (show -8388608 ≤ r ∧ r ≤ 8388608 by omega) (show -8388608 ≤ d2 ∧ d2 ≤ 8388608 by omega)
            have w1 : IntKind.i64.wrap (r * d1) = r * d1 := by rw [IntKind.wrap_i64]; omega
            have w2 : IntKind.i64.wrap (r * d2) = r * d2 := by rw [IntKind.wrap_i64]; omega
            have w3 : IntKind.i64.wrap (i.cU + r * d1) = i.cU + r * d1 := by rw [IntKind.wrap_i64]; omega
            have w4 : IntKind.i64.wrap (i.cW + r * d2) = i.cW + r * d2 := by rw [IntKind.wrap_i64]; omega
            have KSO := Lib.hid (solid_any i.plane (i.cU + r * d1) (i.cW + r * d2) i.cH W7)
            clear m1 m2
            go_wp2_with fail
            with_reducible refine KSO.out.mono ?_
            rintro e W8 ⟨rfl, b8⟩
            have HX8 := Lib.hid (HX7.out.below b8)
            have HC8 := Lib.hid (HC7.out.below b8 HC7.out.lt)
            have sz8 := b8.size
            have lC : C < W8.heap.size := HC8.out.lt
            clear b8 KSO p8 q0 q1 t0 t1 w1 w2 w3 w4 HX7 HC7 HT7
            go_upto_region 12 with fail
            refine wp_told (fun W => ∃ q : V3, q = extP i r (d1, d2) ∧ XS w i L lo hi W ∧ Blk W C 88 #[.int .i64 i.cU, .int .i64 i.cW] ∧ Blk W W8.heap.size 23 #[.int .i64 q.1, .int .i64 q.2.1, .int .i64 q.2.2]) ⟨_, rfl, HX8.out.alloc _, HC8.out.alloc _, Blk.new _ _ _⟩ ?_
            clear HX8 HC8
            rintro W9 ⟨⟨qx, qy, qz⟩, hq, hx9, hc9, hp9⟩
            obtain ⟨E, hEe⟩ : ∃ T, W8.heap.size = T := ⟨_, rfl⟩
            rw [hEe] at hp9 lC ⊢
            have HQ := Lib.hid hq
            have e0 : W9.cell? ⟨E, 0, none⟩ = some (.int .i64 qx) := hp9.cell' 0 rfl
            have e1 : W9.cell? ⟨E, 1, none⟩ = some (.int .i64 qy) := hp9.cell' 1 rfl
            have e2 : W9.cell? ⟨E, 2, none⟩ = some (.int .i64 qz) := hp9.cell' 2 rfl
            have l0 : W9.cell? ⟨L, 0, none⟩ = some (.int .i64 lo.1) := hx9.lo.cell' 0 rfl
            have l1 : W9.cell? ⟨L, 1, none⟩ = some (.int .i64 lo.2.1) := hx9.lo.cell' 1 rfl
            have l2 : W9.cell? ⟨L, 2, none⟩ = some (.int .i64 lo.2.2) := hx9.lo.cell' 2 rfl
            have HX9 := Lib.hid hx9
            have HC9 := Lib.hid hc9
            have HP9 := Lib.hid hp9
            clear hEe hq hx9 hc9 hp9 sz8
            go_wp2_with fail
            with_reducible refine (box_any lo.1 lo.2.1 lo.2.2 qx qy qz W9).mono ?_
            rintro e W10 ⟨rfl, b10⟩
            have hx10 := HX9.out.below b10
            have HC10 := Lib.hid (HC9.out.below b10 HC9.out.lt)
            have HP10 := Lib.hid (HP9.out.below b10 HP9.out.lt)
            clear b10 e0 e1 e2 l0 l1 l2 HX9 HC9 HP9
            have f0 := hx10.lo.frozen 0
            have f1 := hx10.lo.frozen 1
            have f2 := hx10.lo.frozen 2
            have l0 : W10.cell? ⟨L, 0, none⟩ = some (.int .i64 lo.1) := hx10.lo.cell' 0 rfl
            have l1 : W10.cell? ⟨L, 1, none⟩ = some (.int .i64 lo.2.1) := hx10.lo.cell' 1 rfl
            have l2 : W10.cell? ⟨L, 2, none⟩ = some (.int .i64 lo.2.2) := hx10.lo.cell' 2 rfl
            have HX10 := Lib.hid hx10
            clear hx10
            go_upto_region 13 with fail
            refine wp_told (fun W => XS w i L (boxLo lo (qx, qy, qz)) hi W ∧ Blk W C 88 #[.int .i64 i.cU, .int .i64 i.cW] ∧ Blk W E 23 #[.int .i64 qx, .int .i64 qy, .int .i64 qz]) ⟨HX10.out.setlo hL (boxLo lo (qx, qy, qz)), Blk.skip (Blk.skip (Blk.skip HC10.out (by show C ≠ L; omega) _) (by show C ≠ L; omega) _) (by show C ≠ L; omega) _, Blk.skip (Blk.skip (Blk.skip HP10.out (by show E ≠ L; omega) _) (by show E ≠ L; omega) _) (by show E ≠ L; omega) _⟩ ?_
            clear f0 f1 f2 l0 l1 l2 HX10 HC10 HP10
            rintro W11 ⟨hx11, hc11, hp11⟩
            have e0 : W11.cell? ⟨E, 0, none⟩ = some (.int .i64 qx) := hp11.cell' 0 rfl
            have e1 : W11.cell? ⟨E, 1, none⟩ = some (.int .i64 qy) := hp11.cell' 1 rfl
            have e2 : W11.cell? ⟨E, 2, none⟩ = some (.int .i64 qz) := hp11.cell' 2 rfl
            have l0 : W11.cell? ⟨L + 1, 0, none⟩ = some (.int .i64 hi.1) := hx11.hi.cell' 0 rfl
            have l1 : W11.cell? ⟨L + 1, 1, none⟩ = some (.int .i64 hi.2.1) := hx11.hi.cell' 1 rfl
            have l2 : W11.cell? ⟨L + 1, 2, none⟩ = some (.int .i64 hi.2.2) := hx11.hi.cell' 2 rfl
            have HX11 := Lib.hid hx11
            have HC11 := Lib.hid hc11
            clear hx11 hc11 hp11
            go_wp2_with fail
            with_reducible refine (box_any hi.1 hi.2.1 hi.2.2 qx qy qz W11).mono ?_
            rintro e W12 ⟨rfl, b12⟩
            have hx12 := HX11.out.below b12
            have HC12 := Lib.hid (HC11.out.below b12 HC11.out.lt)
            clear b12 e0 e1 e2 l0 l1 l2 HX11 HC11
            have f0 := hx12.hi.frozen 0
            have f1 := hx12.hi.frozen 1
            have f2 := hx12.hi.frozen 2
            have l0 : W12.cell? ⟨L + 1, 0, none⟩ = some (.int .i64 hi.1) := hx12.hi.cell' 0 rfl
            have l1 : W12.cell? ⟨L + 1, 1, none⟩ = some (.int .i64 hi.2.1) := hx12.hi.cell' 1 rfl
            have l2 : W12.cell? ⟨L + 1, 2, none⟩ = some (.int .i64 hi.2.2) := hx12.hi.cell' 2 rfl
            have HX12 := Lib.hid hx12
            clear hx12
            go_wp2_with fail
            go_roundw
            case rel => exact ⟨3, boxLo lo (qx, qy, qz), boxHi hi (qx, qy, qz), by omega, by go_num, by rw [take_snoc HD.out, List.foldl_append, HFO.out]; show extS i r (lo, hi) (d1, d2) = _; unfold extS; rw [if_pos HIN.out, ← HQ.out], HX12.out.sethi hL (boxHi hi (qx, qy, qz)), Blk.skip (Blk.skip (Blk.skip HC12.out (by show C ≠ L + 1; omega) _) (by show C ≠ L + 1; omega) _) (by show C ≠ L + 1; omega) _⟩
            case measure => simp [intOf] <;> omega
        · skip
          go_upto_region 10 with fail
          refine wp_told (fun W => ∃ d1 d2 : Int, dirL[3]? = some (d1, d2) ∧ (-1 ≤ d1 ∧ d1 ≤ 1) ∧ (-1 ≤ d2 ∧ d2 ≤ 1) ∧ XS w i L lo hi W ∧ Blk W C 88 #[.int .i64 i.cU, .int .i64 i.cW] ∧ Blk W wr.heap.size 88 #[.int .i64 d1, .int .i64 d2]) ⟨0, -1, rfl, by decide, by decide, HX.out.alloc _, HC.out.alloc _, Blk.new _ _ _⟩ ?_
          rintro W6 ⟨d1, d2, hd, hd1, hd2, hx6, hc6, ht6⟩
          have hT : C < wr.heap.size := HC.out.lt
          obtain ⟨T, hTe⟩ : ∃ T, wr.heap.size = T := ⟨_, rfl⟩
          rw [hTe] at ht6 hT ⊢
          have HD := Lib.hid hd
          have t0 := ht6.cell' 0 rfl
          have t1 := ht6.cell' 1 rfl
          have HX6 := Lib.hid hx6
          have HC6 := Lib.hid hc6
          have HT6 := Lib.hid ht6
          clear hTe hd hx6 hc6 ht6 HX HC szr
          have KN := Lib.hid (inside_any i d1 d2 hau haw hbu hbw (by unfold Sm; omega) (by unfold Sm; omega) W6)
          obtain ⟨ins, hins⟩ : ∃ b, insV i d1 d2 = b := ⟨_, rfl⟩
          rw [hins] at KN
          have HIN := Lib.hid hins
          clear hins
          go_wp2_with ((with_reducible refine go_loadI (.tmp 1) w.heap.size i (by with_unfolding_all rfl) HX6.out.i ?_))
          refine KN.out.mono ?_
          rintro e W7 ⟨rfl, b7⟩
          have HX7 := Lib.hid (HX6.out.below b7)
          have HC7 := Lib.hid (HC6.out.below b7 HC6.out.lt)
          have HT7 := Lib.hid (HT6.out.below b7 HT6.out.lt)
          clear b7 KN t0 t1 HX6 HC6 HT6
          cases ins
          · go_wp2_with fail
            go_roundw
            case rel => exact ⟨4, lo, hi, by omega, by go_num, by rw [take_snoc HD.out, List.foldl_append, HFO.out]; show extS i r (lo, hi) (d1, d2) = _; unfold extS; rw [if_neg (by rw [HIN.out]; decide)], HX7.out, HC7.out⟩
            case measure => simp [intOf] <;> omega
          · have p8 := HX7.out.i.c8
            have q0 : W7.cell? ⟨C, 0, none⟩ = some (.int .i64 i.cU) := HC7.out.cell' 0 rfl
            have q1 : W7.cell? ⟨C, 1, none⟩ = some (.int .i64 i.cW) := HC7.out.cell' 1 rfl
            have t0 : W7.cell? ⟨T, 0, none⟩ = some (.int .i64 d1) := HT7.out.cell' 0 rfl
            have t1 : W7.cell? ⟨T, 1, none⟩ = some (.int .i64 d2) := HT7.out.cell' 1 rfl
            have m1 := mul_bd (B := 8388608) (by decide) (show -8388608 ≤ r ∧ r ≤ 8388608 by omega) (show -8388608 ≤ d1 ∧ d1 ≤ 8388608 by omega)
            have m2 := mul_bd (B := 8388608) (by decide) (show -8388608 ≤ r ∧ r ≤ 8388608 by omega) (show -8388608 ≤ d2 ∧ d2 ≤ 8388608 by omega)
            have w1 : IntKind.i64.wrap (r * d1) = r * d1 := by rw [IntKind.wrap_i64]; omega
            have w2 : IntKind.i64.wrap (r * d2) = r * d2 := by rw [IntKind.wrap_i64]; omega
            have w3 : IntKind.i64.wrap (i.cU + r * d1) = i.cU + r * d1 := by rw [IntKind.wrap_i64]; omega
            have w4 : IntKind.i64.wrap (i.cW + r * d2) = i.cW + r * d2 := by rw [IntKind.wrap_i64]; omega
            have KSO := Lib.hid (solid_any i.plane (i.cU + r * d1) (i.cW + r * d2) i.cH W7)
            clear m1 m2
            go_wp2_with fail
            with_reducible refine KSO.out.mono ?_
            rintro e W8 ⟨rfl, b8⟩
            have HX8 := Lib.hid (HX7.out.below b8)
            have HC8 := Lib.hid (HC7.out.below b8 HC7.out.lt)
            have sz8 := b8.size
            have lC : C < W8.heap.size := HC8.out.lt
            clear b8 KSO p8 q0 q1 t0 t1 w1 w2 w3 w4 HX7 HC7 HT7
            go_upto_region 12 with fail
            refine wp_told (fun W => ∃ q : V3, q = extP i r (d1, d2) ∧ XS w i L lo hi W ∧ Blk W C 88 #[.int .i64 i.cU, .int .i64 i.cW] ∧ Blk W W8.heap.size 23 #[.int .i64 q.1, .int .i64 q.2.1, .int .i64 q.2.2]) ⟨_, rfl, HX8.out.alloc _, HC8.out.alloc _, Blk.new _ _ _⟩ ?_
            clear HX8 HC8
            rintro W9 ⟨⟨qx, qy, qz⟩, hq, hx9, hc9, hp9⟩
            obtain ⟨E, hEe⟩ : ∃ T, W8.heap.size = T := ⟨_, rfl⟩
            rw [hEe] at hp9 lC ⊢
            have HQ := Lib.hid hq
            have e0 : W9.cell? ⟨E, 0, none⟩ = some (.int .i64 qx) := hp9.cell' 0 rfl
            have e1 : W9.cell? ⟨E, 1, none⟩ = some (.int .i64 qy) := hp9.cell' 1 rfl
            have e2 : W9.cell? ⟨E, 2, none⟩ = some (.int .i64 qz) := hp9.cell' 2 rfl
            have l0 : W9.cell? ⟨L, 0, none⟩ = some (.int .i64 lo.1) := hx9.lo.cell' 0 rfl
            have l1 : W9.cell? ⟨L, 1, none⟩ = some (.int .i64 lo.2.1) := hx9.lo.cell' 1 rfl
            have l2 : W9.cell? ⟨L, 2, none⟩ = some (.int .i64 lo.2.2) := hx9.lo.cell' 2 rfl
            have HX9 := Lib.hid hx9
            have HC9 := Lib.hid hc9
            have HP9 := Lib.hid hp9
            clear hEe hq hx9 hc9 hp9 sz8
            go_wp2_with fail
            with_reducible refine (box_any lo.1 lo.2.1 lo.2.2 qx qy qz W9).mono ?_
            rintro e W10 ⟨rfl, b10⟩
            have hx10 := HX9.out.below b10
            have HC10 := Lib.hid (HC9.out.below b10 HC9.out.lt)
            have HP10 := Lib.hid (HP9.out.below b10 HP9.out.lt)
            clear b10 e0 e1 e2 l0 l1 l2 HX9 HC9 HP9
            have f0 := hx10.lo.frozen 0
            have f1 := hx10.lo.frozen 1
            have f2 := hx10.lo.frozen 2
            have l0 : W10.cell? ⟨L, 0, none⟩ = some (.int .i64 lo.1) := hx10.lo.cell' 0 rfl
            have l1 : W10.cell? ⟨L, 1, none⟩ = some (.int .i64 lo.2.1) := hx10.lo.cell' 1 rfl
            have l2 : W10.cell? ⟨L, 2, none⟩ = some (.int .i64 lo.2.2) := hx10.lo.cell' 2 rfl
            have HX10 := Lib.hid hx10
            clear hx10
            go_upto_region 13 with fail
            refine wp_told (fun W => XS w i L (boxLo lo (qx, qy, qz)) hi W ∧ Blk W C 88 #[.int .i64 i.cU, .int .i64 i.cW] ∧ Blk W E 23 #[.int .i64 qx, .int .i64 qy, .int .i64 qz]) ⟨HX10.out.setlo hL (boxLo lo (qx, qy, qz)), Blk.skip (Blk.skip (Blk.skip HC10.out (by show C ≠ L; omega) _) (by show C ≠ L; omega) _) (by show C ≠ L; omega) _, Blk.skip (Blk.skip (Blk.skip HP10.out (by show E ≠ L; omega) _) (by show E ≠ L; omega) _) (by show E ≠ L; omega) _⟩ ?_
            clear f0 f1 f2 l0 l1 l2 HX10 HC10 HP10
            rintro W11 ⟨hx11, hc11, hp11⟩
            have e0 : W11.cell? ⟨E, 0, none⟩ = some (.int .i64 qx) := hp11.cell' 0 rfl
            have e1 : W11.cell? ⟨E, 1, none⟩ = some (.int .i64 qy) := hp11.cell' 1 rfl
            have e2 : W11.cell? ⟨E, 2, none⟩ = some (.int .i64 qz) := hp11.cell' 2 rfl
            have l0 : W11.cell? ⟨L + 1, 0, none⟩ = some (.int .i64 hi.1) := hx11.hi.cell' 0 rfl
            have l1 : W11.cell? ⟨L + 1, 1, none⟩ = some (.int .i64 hi.2.1) := hx11.hi.cell' 1 rfl
            have l2 : W11.cell? ⟨L + 1, 2, none⟩ = some (.int .i64 hi.2.2) := hx11.hi.cell' 2 rfl
            have HX11 := Lib.hid hx11
            have HC11 := Lib.hid hc11
            clear hx11 hc11 hp11
            go_wp2_with fail
            with_reducible refine (box_any hi.1 hi.2.1 hi.2.2 qx qy qz W11).mono ?_
            rintro e W12 ⟨rfl, b12⟩
            have hx12 := HX11.out.below b12
            have HC12 := Lib.hid (HC11.out.below b12 HC11.out.lt)
            clear b12 e0 e1 e2 l0 l1 l2 HX11 HC11
            have f0 := hx12.hi.frozen 0
            have f1 := hx12.hi.frozen 1
            have f2 := hx12.hi.frozen 2
            have l0 : W12.cell? ⟨L + 1, 0, none⟩ = some (.int .i64 hi.1) := hx12.hi.cell' 0 rfl
            have l1 : W12.cell? ⟨L + 1, 1, none⟩ = some (.int .i64 hi.2.1) := hx12.hi.cell' 1 rfl
            have l2 : W12.cell? ⟨L + 1, 2, none⟩ = some (.int .i64 hi.2.2) := hx12.hi.cell' 2 rfl
            have HX12 := Lib.hid hx12
            clear hx12
            go_wp2_with fail
            go_roundw
            case rel => exact ⟨4, boxLo lo (qx, qy, qz), boxHi hi (qx, qy, qz), by omega, by go_num, by rw [take_snoc HD.out, List.foldl_append, HFO.out]; show extS i r (lo, hi) (d1, d2) = _; unfold extS; rw [if_pos HIN.out, ← HQ.out], HX12.out.sethi hL (boxHi hi (qx, qy, qz)), Blk.skip (Blk.skip (Blk.skip HC12.out (by show C ≠ L + 1; omega) _) (by show C ≠ L + 1; omega) _) (by show C ≠ L + 1; omega) _⟩
            case measure => simp [intOf] <;> omega
      · obtain rfl : k = 4 := by omega
        have hfin := HFIN.out
        rw [show dirL.take 4 = dirL from rfl] at HFO
        rw [HFO.out] at hfin
        obtain ⟨rfl, rfl⟩ : RL = lo ∧ RH = hi := by injection hfin with e1 e2; exact ⟨e1.symm, e2.symm⟩
        clear hk3
        have y0 := HX.out.z1.frozen 0
        have y1 := HX.out.z1.frozen 1
        have y2 := HX.out.z1.frozen 2
        have x0 := HX.out.z2.frozen 0
        have x1 := HX.out.z2.frozen 1
        have x2 := HX.out.z2.frozen 2
        have v0 : wr.cell? ⟨w.heap.size + 1, 0, none⟩ = some (.int .i64 0) := HX.out.z1.cell' 0 rfl
        have v1 : wr.cell? ⟨w.heap.size + 1, 1, none⟩ = some (.int .i64 0) := HX.out.z1.cell' 1 rfl
        have v2 : wr.cell? ⟨w.heap.size + 1, 2, none⟩ = some (.int .i64 0) := HX.out.z1.cell' 2 rfl
        have u0 : wr.cell? ⟨w.heap.size + 1 + 1, 0, none⟩ = some (.int .i64 0) := HX.out.z2.cell' 0 rfl
        have u1 : wr.cell? ⟨w.heap.size + 1 + 1, 1, none⟩ = some (.int .i64 0) := HX.out.z2.cell' 1 rfl
        have u2 : wr.cell? ⟨w.heap.size + 1 + 1, 2, none⟩ = some (.int .i64 0) := HX.out.z2.cell' 2 rfl
        go_upto_region 15 with fail
        have HK0 := Lib.hid (⟨HX.out.lo.drew, HX.out.hi.drew⟩ : XE L RL RH wr.drew)
        have hS0 := HK0.out
        refine region_L (XE L RL RH) [3] (by kernel_rfl) ?_
        refine take_L 0 (v := .agg #[.int .i64 RL.1, .int .i64 RL.2.1, .int .i64 RL.2.2]) rfl (by kernel_rfl) (by kernel_rfl) (by kernel_rfl) (by kernel_rfl) (fun _ _ _ h => h) rfl (fun W' hW' => by have q0 : W'.cell? ⟨L, 0, none⟩ = some (.int .i64 RL.1) := hW'.lo.cell' 0 rfl; have q1 : W'.cell? ⟨L, 1, none⟩ = some (.int .i64 RL.2.1) := hW'.lo.cell' 1 rfl; have q2 : W'.cell? ⟨L, 2, none⟩ = some (.int .i64 RL.2.2) := hW'.lo.cell' 2 rfl; go_simp) hS0 ?_
        refine take_L 1 (v := .agg #[.int .i64 RH.1, .int .i64 RH.2.1, .int .i64 RH.2.2]) rfl (by kernel_rfl) (by kernel_rfl) (by kernel_rfl) (by kernel_rfl) (fun _ _ _ h => h) rfl (fun W' hW' => by have q0 : W'.cell? ⟨L + 1, 0, none⟩ = some (.int .i64 RH.1) := hW'.hi.cell' 0 rfl; have q1 : W'.cell? ⟨L + 1, 1, none⟩ = some (.int .i64 RH.2.1) := hW'.hi.cell' 1 rfl; have q2 : W'.cell? ⟨L + 1, 2, none⟩ = some (.int .i64 RH.2.2) := hW'.hi.cell' 2 rfl; go_simp) hS0 ?_
        clear hS0
        refine one_L 2 (by kernel_rfl) rfl rfl fun K2 hK2 => ?_
        have HK2 := Lib.hid hK2
        clear hK2
        go_simp
        refine HK2.out _ _ (fun _ _ => ⟨(HX.out.drew.far hL _ _ _).1, (HX.out.drew.far hL _ _ _).2⟩) ?_
        refine one_L 3 (by kernel_rfl) rfl rfl fun K3 hK3 => ?_
        have HK3 := Lib.hid hK3
        clear hK3
        go_simp
        refine HK3.out _ _ (fun h => absurd h (by decide)) ?_
        refine done_L (by kernel_rfl) ?_ _
        clear HK2 HK3 HK0
        go_simp
        go_wp2_with fail
        refine bodyPost_ret (results_cc rfl rfl (show Blk _ (w.heap.size + 1) 23 (v3A RL) from Blk.drew (Blk.skip (Blk.skip (Blk.skip (((HX.out.z1.put 0 _).put 1 _).put 2 _) (by simp) _) (by simp) _) (by simp) _)) Tryz.underlying23 rfl (by kernel_rfl) rfl (show Blk _ (w.heap.size + 1 + 1) 23 (v3A RH) from Blk.drew ((((Blk.skip (Blk.skip (Blk.skip HX.out.z2 (by simp) _) (by simp) _) (by simp) _).put 0 _).put 1 _).put 2 _)) Tryz.underlying23 rfl (by kernel_rfl)) rfl ?_
        exact ⟨rfl, ((((((HX.out.bel.setCell (by show w.heap.size ≤ w.heap.size + 1; omega) _).setCell (by show w.heap.size ≤ w.heap.size + 1; omega) _).setCell (by show w.heap.size ≤ w.heap.size + 1; omega) _).setCell (by show w.heap.size ≤ w.heap.size + 1 + 1; omega) _).setCell (by show w.heap.size ≤ w.heap.size + 1 + 1; omega) _).setCell (by show w.heap.size ≤ w.heap.size + 1 + 1; omega) _).drew⟩
end Go.Proofs.YtefdjdipbnnoaaaGreatDoor

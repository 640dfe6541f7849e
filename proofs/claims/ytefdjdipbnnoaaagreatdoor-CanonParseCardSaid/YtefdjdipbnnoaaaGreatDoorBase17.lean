/-
  Whole items in a walk; cncref17.Motion, in, base: any item.
-/
import Derived.Test.YtefdjdipbnnoaaaGreatDoorValidB17
namespace Go.Proofs.YtefdjdipbnnoaaaGreatDoor
open Go Go.RowKit
set_option linter.unusedVariables false
set_option linter.unusedSimpArgs false

def zeroI : It := ⟨0, 0, 0, 0, 0, 0, 0, 0, 0, 0, 0, 0, 0, false, 0, false, 0, 0, 0, 0, 0, false⟩
section
variable {ops : Array Oper} {rest : List Oper} {a : Act} {w : World} {Q : Exit → Act → World → Prop} {dst : Option Tmp} {ty0 : TypeId} {pos : String} {after : Array Edge}
theorem go_allocI (h : wpList Tryz.prog ops Q rest (a.put dst (.pointer (some ⟨w.heap.size, 0, none⟩))) (w.alloc (.cells (itA zeroI) 25))) : wpList Tryz.prog ops Q (⟨dst, .alloc 25, ty0, pos, after, none⟩ :: rest) a w := by
  refine wpList_plain rfl fun K hK => ?_
  have := hK _ _ h
  clear h hK
  unfold Oper.wp execOp
  simp only [Sem.run_bind]
  have e : Sem.run Tryz.prog (Instr.alloc 25 true (.tuple #[])) w = .ok (.pointer (some ⟨w.heap.size, 0, none⟩)) (w.alloc (.cells (itA zeroI) 25)) := by
    go_simp
    rfl
  rw [e]
  exact this
theorem go_loadI (x : Operand) (g : Nat) (i : It) (hx : a.eval x = .pointer (some ⟨g, 0, none⟩)) (hI : ItAt w g i) (h : wpList Tryz.prog ops Q rest (a.put dst (.agg (itA i))) w) : wpList Tryz.prog ops Q (⟨dst, .load 25 x, ty0, pos, after, none⟩ :: rest) a w :=
  go_load_row 25 x g 25 (itA i) _ hx hI Tryz.underlying25 rfl (by kernel_rfl) h
theorem go_storeI (x y : Operand) (g : Nat) (i o : It) (hx : a.eval x = .pointer (some ⟨g, 0, none⟩)) (hy : a.eval y = .agg (itA i)) (hI : ItAt w g o) (h : wpList Tryz.prog ops Q rest (a.put dst undef) (w.setRow g (itA i))) : wpList Tryz.prog ops Q (⟨dst, .store 25 x y, ty0, pos, after, none⟩ :: rest) a w :=
  go_store_row 25 x y g (itA i) 25 (itA o) hx hy hI (by kernel_rfl) rfl (itA_one i) h
end
theorem ItAt.row {w : World} {g : Nat} {o : It} (h : ItAt w g o) (i : It) : ItAt (w.setRow g (itA i)) g i := Blk.setRow h _
theorem ItAt.new (w : World) (i : It) : ItAt (w.alloc (.cells (itA i) 25)) w.heap.size i := Blk.new w _ _
theorem ItAt.alloc {w : World} {g : Nat} {o : It} (h : ItAt w g o) (ob : Obj) : ItAt (w.alloc ob) g o := Blk.alloc h ob
theorem ItAt.far {w : World} {g : Nat} {o : It} (h : ItAt w g o) {p : Addr} (hp : g ≠ p.block) (u : Value) : ItAt (w.setCell p u) g o := Blk.skip h hp u
theorem ItAt.rowFar {w : World} {g g' : Nat} {o : It} (h : ItAt w g o) (hne : g ≠ g') (cs : Array Value) : ItAt (w.setRow g' cs) g o := Blk.rowFar h hne cs
theorem ItAt.drew {w : World} {g : Nat} {o : It} (h : ItAt w g o) : ItAt w.drew g o := Blk.drew h

theorem ItAt.s0 {w : World} {g : Nat} {i : It} (h : ItAt w g i) (v : Int) : ItAt (w.setCell ⟨g, 0, none⟩ (.int .i64 v)) g { i with kind := v } := Blk.put h 0 (.int .i64 v)

theorem ItAt.s1 {w : World} {g : Nat} {i : It} (h : ItAt w g i) (v : Int) : ItAt (w.setCell ⟨g, 1, none⟩ (.int .i64 v)) g { i with block := v } := Blk.put h 1 (.int .i64 v)

theorem ItAt.s2 {w : World} {g : Nat} {i : It} (h : ItAt w g i) (v : Int) : ItAt (w.setCell ⟨g, 2, none⟩ (.int .i64 v)) g { i with fx := v } := Blk.put h 2 (.int .i64 v)

theorem ItAt.s3 {w : World} {g : Nat} {i : It} (h : ItAt w g i) (v : Int) : ItAt (w.setCell ⟨g, 3, none⟩ (.int .i64 v)) g { i with fy := v } := Blk.put h 3 (.int .i64 v)

theorem ItAt.s4 {w : World} {g : Nat} {i : It} (h : ItAt w g i) (v : Int) : ItAt (w.setCell ⟨g, 4, none⟩ (.int .i64 v)) g { i with fz := v } := Blk.put h 4 (.int .i64 v)

theorem ItAt.s5 {w : World} {g : Nat} {i : It} (h : ItAt w g i) (v : Int) : ItAt (w.setCell ⟨g, 5, none⟩ (.int .i64 v)) g { i with tx := v } := Blk.put h 5 (.int .i64 v)

theorem ItAt.s6 {w : World} {g : Nat} {i : It} (h : ItAt w g i) (v : Int) : ItAt (w.setCell ⟨g, 6, none⟩ (.int .i64 v)) g { i with ty := v } := Blk.put h 6 (.int .i64 v)

theorem ItAt.s7 {w : World} {g : Nat} {i : It} (h : ItAt w g i) (v : Int) : ItAt (w.setCell ⟨g, 7, none⟩ (.int .i64 v)) g { i with tz := v } := Blk.put h 7 (.int .i64 v)

theorem ItAt.s8 {w : World} {g : Nat} {i : It} (h : ItAt w g i) (v : Int) : ItAt (w.setCell ⟨g, 8, none⟩ (.int .i64 v)) g { i with plane := v } := Blk.put h 8 (.int .i64 v)

theorem ItAt.s9 {w : World} {g : Nat} {i : It} (h : ItAt w g i) (v : Int) : ItAt (w.setCell ⟨g, 9, none⟩ (.int .i64 v)) g { i with cx := v } := Blk.put h 9 (.int .i64 v)

theorem ItAt.s10 {w : World} {g : Nat} {i : It} (h : ItAt w g i) (v : Int) : ItAt (w.setCell ⟨g, 10, none⟩ (.int .i64 v)) g { i with cy := v } := Blk.put h 10 (.int .i64 v)

theorem ItAt.s11 {w : World} {g : Nat} {i : It} (h : ItAt w g i) (v : Int) : ItAt (w.setCell ⟨g, 11, none⟩ (.int .i64 v)) g { i with cz := v } := Blk.put h 11 (.int .i64 v)

theorem ItAt.s12 {w : World} {g : Nat} {i : It} (h : ItAt w g i) (v : Int) : ItAt (w.setCell ⟨g, 12, none⟩ (.int .i64 v)) g { i with dir := v } := Blk.put h 12 (.int .i64 v)

theorem ItAt.s13 {w : World} {g : Nat} {i : It} (h : ItAt w g i) (v : Bool) : ItAt (w.setCell ⟨g, 13, none⟩ (.bool v)) g { i with full := v } := Blk.put h 13 (.bool v)

theorem ItAt.s14 {w : World} {g : Nat} {i : It} (h : ItAt w g i) (v : Int) : ItAt (w.setCell ⟨g, 14, none⟩ (.int .i64 v)) g { i with feed := v } := Blk.put h 14 (.int .i64 v)

theorem ItAt.s15 {w : World} {g : Nat} {i : It} (h : ItAt w g i) (v : Bool) : ItAt (w.setCell ⟨g, 15, none⟩ (.bool v)) g { i with perRev := v } := Blk.put h 15 (.bool v)

theorem ItAt.s16 {w : World} {g : Nat} {i : It} (h : ItAt w g i) (v : Int) : ItAt (w.setCell ⟨g, 16, none⟩ (.int .i64 v)) g { i with side := v } := Blk.put h 16 (.int .i64 v)

theorem ItAt.s17 {w : World} {g : Nat} {i : It} (h : ItAt w g i) (v : Int) : ItAt (w.setCell ⟨g, 17, none⟩ (.int .i64 v)) g { i with radius := v } := Blk.put h 17 (.int .i64 v)

theorem ItAt.s18 {w : World} {g : Nat} {i : It} (h : ItAt w g i) (v : Int) : ItAt (w.setCell ⟨g, 18, none⟩ (.int .i64 v)) g { i with blend := v } := Blk.put h 18 (.int .i64 v)

theorem ItAt.s19 {w : World} {g : Nat} {i : It} (h : ItAt w g i) (v : Int) : ItAt (w.setCell ⟨g, 19, none⟩ (.int .i64 v)) g { i with n := v } := Blk.put h 19 (.int .i64 v)

theorem ItAt.s20 {w : World} {g : Nat} {i : It} (h : ItAt w g i) (v : Int) : ItAt (w.setCell ⟨g, 20, none⟩ (.int .i64 v)) g { i with speed := v } := Blk.put h 20 (.int .i64 v)

theorem ItAt.s21 {w : World} {g : Nat} {i : It} (h : ItAt w g i) (v : Bool) : ItAt (w.setCell ⟨g, 21, none⟩ (.bool v)) g { i with on := v } := Blk.put h 21 (.bool v)


theorem rmotionK_any (k : Int) (w : World) : Calls Tryz.prog 29 #[.int .i64 k] w fun e w' => e = .returned (.bool (motK k)) ∧ w = w' := by
  go_enter Tryz.func29, Tryz.ntmps29
  go_wp2_with fail
  all_goals
    go_ret
    exact ⟨ret_bool (by unfold motK; (rw [Bool.eq_iff_iff]; simp only [Bool.or_eq_true, Bool.and_eq_true, Bool.not_eq_true', beq_iff_eq, beq_eq_false_iff_ne, bne_iff_ne, decide_eq_true_eq, decide_eq_false_iff_not, true_iff, iff_true, false_iff, iff_false, Bool.false_eq_true, true_and, and_true, false_and, and_false, true_or, or_true, false_or, or_false]; first | done | omega)), rfl⟩
def inK (n lo hi : Int) : Bool := decide (lo ≤ n ∧ n ≤ hi)
theorem rin17_any (n lo hi : Int) (w : World) : Calls Tryz.prog 49 #[.int .i64 n, .int .i64 lo, .int .i64 hi] w fun e w' => e = .returned (.bool (inK n lo hi)) ∧ w = w' := by
  go_enter Tryz.func49, Tryz.ntmps49
  go_wp2_with fail
  all_goals
    go_ret
    exact ⟨ret_bool (by unfold inK; (rw [Bool.eq_iff_iff]; simp only [Bool.or_eq_true, Bool.and_eq_true, Bool.not_eq_true', beq_iff_eq, beq_eq_false_iff_ne, bne_iff_ne, decide_eq_true_eq, decide_eq_false_iff_not, true_iff, iff_true, false_iff, iff_false, Bool.false_eq_true, true_and, and_true, false_and, and_false, true_or, or_true, false_or, or_false]; first | done | omega)), rfl⟩
def headI (i : It) : It := { zeroI with kind := i.kind, block := i.block }
def wayI (i : It) : It := { headI i with fx := i.fx, fy := i.fy, fz := i.fz, tx := i.tx, ty := i.ty, tz := i.tz }
def sideI (i o : It) : It := { o with side := i.side, plane := i.plane, radius := i.radius }
def feedI (i o : It) : It := { o with feed := i.feed, perRev := i.perRev }
/-- cncref17.base. -/
def baseI (i : It) : It :=
  if i.kind = 1 then sideI i (wayI i)
  else if i.kind = 2 then { feedI i (sideI i (wayI i)) with blend := i.blend }
  else if i.kind = 3 then { feedI i (sideI i (wayI i)) with blend := i.blend, cx := i.cx, cy := i.cy, cz := i.cz, dir := i.dir, full := i.full }
  else if i.kind = 4 ∨ i.kind = 5 then feedI i (wayI i)
  else if i.kind = 6 then { feedI i (wayI i) with n := i.n }
  else if i.kind = 7 ∨ i.kind = 11 then { headI i with n := i.n }
  else if i.kind = 8 then { headI i with n := i.n, speed := i.speed }
  else if i.kind = 9 ∨ i.kind = 10 then { headI i with n := i.n, on := i.on }
  else headI i

attribute [local go_sem] itA_0 itA_1 itA_2 itA_3 itA_4 itA_5 itA_6 itA_7 itA_8 itA_9 itA_10 itA_11 itA_12 itA_13 itA_14 itA_15 itA_16 itA_17 itA_18 itA_19 itA_20 itA_21
set_option maxRecDepth 100000 in
set_option maxHeartbeats 8000000 in
theorem base_any (i : It) (w : World) : Calls Tryz.prog 50 #[.agg (itA i)] w fun e w' => e = .returned (.agg (itA (baseI i))) ∧ Below w.heap.size w w' := by
  have KM := Lib.hid (fun W => rmotionK_any i.kind W)
  have KIN := Lib.hid (fun W => rin17_any i.kind 2 6 W)
  obtain ⟨bi, hbi⟩ : ∃ b, baseI i = b := ⟨_, rfl⟩
  have HBI := Lib.hid hbi
  rw [hbi]
  clear hbi
  have hHead : Tryz.prog.built 25 [(0, .int .i64 i.kind), (1, .int .i64 i.block)] = some (itA (headI i)) := by with_unfolding_all kernel_rfl
  go_enter Tryz.func50, Tryz.ntmps50
  have I1 : ItAt ((((w.alloc (.cells (itA i) 25)).alloc (.cells (itA zeroI) 25)).alloc (.cells (itA zeroI) 25)).setRow (w.heap.size + 1 + 1) (itA (headI i))) w.heap.size i := ((((ItAt.new w i).alloc _).alloc _).rowFar (by omega) _)
  have H1 : ItAt ((((w.alloc (.cells (itA i) 25)).alloc (.cells (itA zeroI) 25)).alloc (.cells (itA zeroI) 25)).setRow (w.heap.size + 1 + 1) (itA (headI i))) (w.heap.size + 1 + 1) (headI i) := ItAt.row (by exact blk_new2 w (.cells (itA i) 25) (.cells (itA zeroI) 25) 25 (itA zeroI)) _
  have R1 : ItAt ((((w.alloc (.cells (itA i) 25)).alloc (.cells (itA zeroI) 25)).alloc (.cells (itA zeroI) 25)).setRow (w.heap.size + 1 + 1) (itA (headI i))) (w.heap.size + 1) zeroI := (ItAt.rowFar ((show ItAt _ (w.heap.size + 1) zeroI from blk_new1 w (.cells (itA i) 25) 25 (itA zeroI)).alloc _) (by omega) _)
  have B1 : Below w.heap.size w ((((w.alloc (.cells (itA i) 25)).alloc (.cells (itA zeroI) 25)).alloc (.cells (itA zeroI) 25)).setRow (w.heap.size + 1 + 1) (itA (headI i))) := below_row (by (repeat (first | exact Below.refl _ _ | refine Below.drew ?_ | refine Below.alloc ?_ (by first | exact Nat.le_refl _ | (simp; done) | (simp; omega)) _ | refine Below.setCell ?_ (by first | exact Nat.le_refl _ | (simp; done) | (simp; omega)) _))) (by omega) _
  have L1 : w.heap.size + 1 + 1 < (((((w.alloc (.cells (itA i) 25)).alloc (.cells (itA zeroI) 25)).alloc (.cells (itA zeroI) 25)).setRow (w.heap.size + 1 + 1) (itA (headI i)))).heap.size := H1.lt
  have c0 := I1.c0
  go_wp2_with (first
    | ((with_reducible refine go_allocI ?_))
    | ((with_reducible refine go_built 25 _ (itA (headI i)) (by with_unfolding_all kernel_rfl) ?_))
    | ((with_reducible refine go_storeI (.tmp 3) (.tmp 8) ((w.alloc (.cells (itA i) 25)).alloc (.cells (itA zeroI) 25)).heap.size (headI i) zeroI (by with_unfolding_all rfl) (by with_unfolding_all rfl) (ItAt.new _ _) ?_)))
  refine (KM.out _).mono ?_
  rintro e w' ⟨rfl, rfl⟩
  clear c0
  clear L1
  generalize ((((w.alloc (.cells (itA i) 25)).alloc (.cells (itA zeroI) 25)).alloc (.cells (itA zeroI) 25)).setRow (w.heap.size + 1 + 1) (itA (headI i))) = W at I1 H1 R1 B1 ⊢
  have ne1 : ¬ w.heap.size = w.heap.size + 1 + 1 := by omega
  have ne2 : ¬ w.heap.size + 1 + 1 = w.heap.size := by omega
  have c0 := I1.c0
  have hk : i.kind = 1 ∨ i.kind = 2 ∨ i.kind = 3 ∨ i.kind = 4 ∨ i.kind = 5 ∨ i.kind = 6 ∨ i.kind = 7 ∨ i.kind = 8 ∨ i.kind = 9 ∨ i.kind = 10 ∨ i.kind = 11 ∨ i.kind = 12 ∨ i.kind = 13 ∨ i.kind = 14 ∨ (i.kind < 1 ∨ 14 < i.kind) := by omega
  rcases hk with hk | hk | hk | hk | hk | hk | hk | hk | hk | hk | hk | hk | hk | hk | hk
  · have k1 : (i.kind == 1) = true := by rw [hk]; rfl
    have k2 : (i.kind == 2) = false := by rw [hk]; rfl
    have k3 : (i.kind == 3) = false := by rw [hk]; rfl
    have k6 : (i.kind == 6) = false := by rw [hk]; rfl
    have k7 : (i.kind == 7) = false := by rw [hk]; rfl
    have k8 : (i.kind == 8) = false := by rw [hk]; rfl
    have k9 : (i.kind == 9) = false := by rw [hk]; rfl
    have k10 : (i.kind == 10) = false := by rw [hk]; rfl
    have k11 : (i.kind == 11) = false := by rw [hk]; rfl
    have hmk : motK i.kind = true := by rw [hk]; rfl
    have hin : inK i.kind 2 6 = false := by rw [hk]; rfl
    have EE : baseI i = bi := HBI.out
    have EE : sideI i (wayI i) = bi := by rw [← HBI.out]; unfold baseI; rw [hk]; rfl
    clear hk HBI
    rw [hmk]
    rw [hin] at KIN
    clear hmk hin
    go_wp2_with fail
    have q2 := I1.c2
    have f2 := Blk.frozen H1 2
    have r2 := H1.c2
    have q3 := I1.c3
    have f3 := Blk.frozen H1 3
    have r3 := H1.c3
    have q4 := I1.c4
    have f4 := Blk.frozen H1 4
    have r4 := H1.c4
    have q5 := I1.c5
    have f5 := Blk.frozen H1 5
    have r5 := H1.c5
    have q6 := I1.c6
    have f6 := Blk.frozen H1 6
    have r6 := H1.c6
    have q7 := I1.c7
    have f7 := Blk.frozen H1 7
    have r7 := H1.c7
    go_region_held3 (fun w' => w'.cell? ⟨w.heap.size, 2, none⟩ = some (.int .i64 i.fx) ∧ w'.cell? ⟨w.heap.size, 3, none⟩ = some (.int .i64 i.fy) ∧ w'.cell? ⟨w.heap.size, 4, none⟩ = some (.int .i64 i.fz) ∧ w'.cell? ⟨w.heap.size, 5, none⟩ = some (.int .i64 i.tx) ∧ w'.cell? ⟨w.heap.size, 6, none⟩ = some (.int .i64 i.ty) ∧ w'.cell? ⟨w.heap.size, 7, none⟩ = some (.int .i64 i.tz)) (go_keep) (fail)
    refine on_told (fun W' => ItAt W' w.heap.size i ∧ ItAt W' (w.heap.size + 1 + 1) (wayI i) ∧ ItAt W' (w.heap.size + 1) zeroI ∧ Below w.heap.size w W') ⟨((((((I1.far (by show w.heap.size ≠ w.heap.size + 1 + 1; omega) _).far (by show w.heap.size ≠ w.heap.size + 1 + 1; omega) _).far (by show w.heap.size ≠ w.heap.size + 1 + 1; omega) _).far (by show w.heap.size ≠ w.heap.size + 1 + 1; omega) _).far (by show w.heap.size ≠ w.heap.size + 1 + 1; omega) _).far (by show w.heap.size ≠ w.heap.size + 1 + 1; omega) _).drew, ((((((H1.s2 _).s3 _).s4 _).s5 _).s6 _).s7 _).drew, ((((((R1.far (by show w.heap.size + 1 ≠ w.heap.size + 1 + 1; omega) _).far (by show w.heap.size + 1 ≠ w.heap.size + 1 + 1; omega) _).far (by show w.heap.size + 1 ≠ w.heap.size + 1 + 1; omega) _).far (by show w.heap.size + 1 ≠ w.heap.size + 1 + 1; omega) _).far (by show w.heap.size + 1 ≠ w.heap.size + 1 + 1; omega) _).far (by show w.heap.size + 1 ≠ w.heap.size + 1 + 1; omega) _).drew, ((((((B1.setCell (by show w.heap.size ≤ w.heap.size + 1 + 1; omega) _).setCell (by show w.heap.size ≤ w.heap.size + 1 + 1; omega) _).setCell (by show w.heap.size ≤ w.heap.size + 1 + 1; omega) _).setCell (by show w.heap.size ≤ w.heap.size + 1 + 1; omega) _).setCell (by show w.heap.size ≤ w.heap.size + 1 + 1; omega) _).setCell (by show w.heap.size ≤ w.heap.size + 1 + 1; omega) _).drew⟩ ?_
    clear q2 f2 r2 q3 f3 r3 q4 f4 r4 q5 f5 r5 q6 f6 r6 q7 f7 r7 c0 I1 H1 R1 B1
    rintro W ⟨I1, H1, R1, B1⟩
    have c0 := I1.c0
    go_wp2_with fail
    have q16 := I1.c16
    have f16 := Blk.frozen H1 16
    have r16 := H1.c16
    have q8 := I1.c8
    have f8 := Blk.frozen H1 8
    have r8 := H1.c8
    have q17 := I1.c17
    have f17 := Blk.frozen H1 17
    have r17 := H1.c17
    go_region_held3 (fun w' => w'.cell? ⟨w.heap.size, 16, none⟩ = some (.int .i64 i.side) ∧ w'.cell? ⟨w.heap.size, 8, none⟩ = some (.int .i64 i.plane) ∧ w'.cell? ⟨w.heap.size, 17, none⟩ = some (.int .i64 i.radius)) (go_keep) (fail)
    refine on_told (fun W' => ItAt W' w.heap.size i ∧ ItAt W' (w.heap.size + 1 + 1) (sideI i (wayI i)) ∧ ItAt W' (w.heap.size + 1) zeroI ∧ Below w.heap.size w W') ⟨(((I1.far (by show w.heap.size ≠ w.heap.size + 1 + 1; omega) _).far (by show w.heap.size ≠ w.heap.size + 1 + 1; omega) _).far (by show w.heap.size ≠ w.heap.size + 1 + 1; omega) _).drew, (((H1.s16 _).s8 _).s17 _).drew, (((R1.far (by show w.heap.size + 1 ≠ w.heap.size + 1 + 1; omega) _).far (by show w.heap.size + 1 ≠ w.heap.size + 1 + 1; omega) _).far (by show w.heap.size + 1 ≠ w.heap.size + 1 + 1; omega) _).drew, (((B1.setCell (by show w.heap.size ≤ w.heap.size + 1 + 1; omega) _).setCell (by show w.heap.size ≤ w.heap.size + 1 + 1; omega) _).setCell (by show w.heap.size ≤ w.heap.size + 1 + 1; omega) _).drew⟩ ?_
    clear q16 f16 r16 q8 f8 r8 q17 f17 r17 c0 I1 H1 R1 B1
    rintro W ⟨I1, H1, R1, B1⟩
    have c0 := I1.c0
    go_wp2_with fail
    refine (KIN.out _).mono ?_
    rintro e w' ⟨rfl, rfl⟩
    have HN : ItAt W (w.heap.size + 1 + 1) bi := by rw [← EE]; exact H1
    have RN : ItAt W (w.heap.size + 1) zeroI := R1
    have BN : Below w.heap.size w W := B1
    have lt1 := R1.lt
    have lt2 := H1.lt
    clear EE
    go_wp2_with (first | ((with_reducible refine go_loadI (.tmp 3) (w.heap.size + 1 + 1) bi (by with_unfolding_all rfl) HN ?_)) | ((with_reducible refine go_storeI (.tmp 2) (.tmp 87) (w.heap.size + 1) bi zeroI (by with_unfolding_all rfl) (by with_unfolding_all rfl) RN ?_)))
    refine bodyPost_ret (results_cell_row rfl _ _ (w.heap.size + 1) 25 (itA bi) (0, 0) _ rfl (show Blk _ _ _ _ from RN.row _) Tryz.underlying25 rfl (by kernel_rfl)) rfl ?_
    exact ⟨rfl, below_row BN (by omega) _⟩
  · have k1 : (i.kind == 1) = false := by rw [hk]; rfl
    have k2 : (i.kind == 2) = true := by rw [hk]; rfl
    have k3 : (i.kind == 3) = false := by rw [hk]; rfl
    have k6 : (i.kind == 6) = false := by rw [hk]; rfl
    have k7 : (i.kind == 7) = false := by rw [hk]; rfl
    have k8 : (i.kind == 8) = false := by rw [hk]; rfl
    have k9 : (i.kind == 9) = false := by rw [hk]; rfl
    have k10 : (i.kind == 10) = false := by rw [hk]; rfl
    have k11 : (i.kind == 11) = false := by rw [hk]; rfl
    have hmk : motK i.kind = true := by rw [hk]; rfl
    have hin : inK i.kind 2 6 = true := by rw [hk]; rfl
    have EE : baseI i = bi := HBI.out
    have EE : { feedI i (sideI i (wayI i)) with blend := i.blend } = bi := by rw [← HBI.out]; unfold baseI; rw [hk]; rfl
    clear hk HBI
    rw [hmk]
    rw [hin] at KIN
    clear hmk hin
    go_wp2_with fail
    have q2 := I1.c2
    have f2 := Blk.frozen H1 2
    have r2 := H1.c2
    have q3 := I1.c3
    have f3 := Blk.frozen H1 3
    have r3 := H1.c3
    have q4 := I1.c4
    have f4 := Blk.frozen H1 4
    have r4 := H1.c4
    have q5 := I1.c5
    have f5 := Blk.frozen H1 5
    have r5 := H1.c5
    have q6 := I1.c6
    have f6 := Blk.frozen H1 6
    have r6 := H1.c6
    have q7 := I1.c7
    have f7 := Blk.frozen H1 7
    have r7 := H1.c7
    go_region_held3 (fun w' => w'.cell? ⟨w.heap.size, 2, none⟩ = some (.int .i64 i.fx) ∧ w'.cell? ⟨w.heap.size, 3, none⟩ = some (.int .i64 i.fy) ∧ w'.cell? ⟨w.heap.size, 4, none⟩ = some (.int .i64 i.fz) ∧ w'.cell? ⟨w.heap.size, 5, none⟩ = some (.int .i64 i.tx) ∧ w'.cell? ⟨w.heap.size, 6, none⟩ = some (.int .i64 i.ty) ∧ w'.cell? ⟨w.heap.size, 7, none⟩ = some (.int .i64 i.tz)) (go_keep) (fail)
    refine on_told (fun W' => ItAt W' w.heap.size i ∧ ItAt W' (w.heap.size + 1 + 1) (wayI i) ∧ ItAt W' (w.heap.size + 1) zeroI ∧ Below w.heap.size w W') ⟨((((((I1.far (by show w.heap.size ≠ w.heap.size + 1 + 1; omega) _).far (by show w.heap.size ≠ w.heap.size + 1 + 1; omega) _).far (by show w.heap.size ≠ w.heap.size + 1 + 1; omega) _).far (by show w.heap.size ≠ w.heap.size + 1 + 1; omega) _).far (by show w.heap.size ≠ w.heap.size + 1 + 1; omega) _).far (by show w.heap.size ≠ w.heap.size + 1 + 1; omega) _).drew, ((((((H1.s2 _).s3 _).s4 _).s5 _).s6 _).s7 _).drew, ((((((R1.far (by show w.heap.size + 1 ≠ w.heap.size + 1 + 1; omega) _).far (by show w.heap.size + 1 ≠ w.heap.size + 1 + 1; omega) _).far (by show w.heap.size + 1 ≠ w.heap.size + 1 + 1; omega) _).far (by show w.heap.size + 1 ≠ w.heap.size + 1 + 1; omega) _).far (by show w.heap.size + 1 ≠ w.heap.size + 1 + 1; omega) _).far (by show w.heap.size + 1 ≠ w.heap.size + 1 + 1; omega) _).drew, ((((((B1.setCell (by show w.heap.size ≤ w.heap.size + 1 + 1; omega) _).setCell (by show w.heap.size ≤ w.heap.size + 1 + 1; omega) _).setCell (by show w.heap.size ≤ w.heap.size + 1 + 1; omega) _).setCell (by show w.heap.size ≤ w.heap.size + 1 + 1; omega) _).setCell (by show w.heap.size ≤ w.heap.size + 1 + 1; omega) _).setCell (by show w.heap.size ≤ w.heap.size + 1 + 1; omega) _).drew⟩ ?_
    clear q2 f2 r2 q3 f3 r3 q4 f4 r4 q5 f5 r5 q6 f6 r6 q7 f7 r7 c0 I1 H1 R1 B1
    rintro W ⟨I1, H1, R1, B1⟩
    have c0 := I1.c0
    go_wp2_with fail
    have q16 := I1.c16
    have f16 := Blk.frozen H1 16
    have r16 := H1.c16
    have q8 := I1.c8
    have f8 := Blk.frozen H1 8
    have r8 := H1.c8
    have q17 := I1.c17
    have f17 := Blk.frozen H1 17
    have r17 := H1.c17
    go_region_held3 (fun w' => w'.cell? ⟨w.heap.size, 16, none⟩ = some (.int .i64 i.side) ∧ w'.cell? ⟨w.heap.size, 8, none⟩ = some (.int .i64 i.plane) ∧ w'.cell? ⟨w.heap.size, 17, none⟩ = some (.int .i64 i.radius)) (go_keep) (fail)
    refine on_told (fun W' => ItAt W' w.heap.size i ∧ ItAt W' (w.heap.size + 1 + 1) (sideI i (wayI i)) ∧ ItAt W' (w.heap.size + 1) zeroI ∧ Below w.heap.size w W') ⟨(((I1.far (by show w.heap.size ≠ w.heap.size + 1 + 1; omega) _).far (by show w.heap.size ≠ w.heap.size + 1 + 1; omega) _).far (by show w.heap.size ≠ w.heap.size + 1 + 1; omega) _).drew, (((H1.s16 _).s8 _).s17 _).drew, (((R1.far (by show w.heap.size + 1 ≠ w.heap.size + 1 + 1; omega) _).far (by show w.heap.size + 1 ≠ w.heap.size + 1 + 1; omega) _).far (by show w.heap.size + 1 ≠ w.heap.size + 1 + 1; omega) _).drew, (((B1.setCell (by show w.heap.size ≤ w.heap.size + 1 + 1; omega) _).setCell (by show w.heap.size ≤ w.heap.size + 1 + 1; omega) _).setCell (by show w.heap.size ≤ w.heap.size + 1 + 1; omega) _).drew⟩ ?_
    clear q16 f16 r16 q8 f8 r8 q17 f17 r17 c0 I1 H1 R1 B1
    rintro W ⟨I1, H1, R1, B1⟩
    have c0 := I1.c0
    go_wp2_with fail
    refine (KIN.out _).mono ?_
    rintro e w' ⟨rfl, rfl⟩
    go_wp2_with fail
    have q14 := I1.c14
    have f14 := Blk.frozen H1 14
    have r14 := H1.c14
    have q15 := I1.c15
    have f15 := Blk.frozen H1 15
    have r15 := H1.c15
    go_region_held3 (fun w' => w'.cell? ⟨w.heap.size, 14, none⟩ = some (.int .i64 i.feed) ∧ w'.cell? ⟨w.heap.size, 15, none⟩ = some (.bool i.perRev)) (go_keep) (fail)
    refine on_told (fun W' => ItAt W' w.heap.size i ∧ ItAt W' (w.heap.size + 1 + 1) (feedI i (sideI i (wayI i))) ∧ ItAt W' (w.heap.size + 1) zeroI ∧ Below w.heap.size w W') ⟨((I1.far (by show w.heap.size ≠ w.heap.size + 1 + 1; omega) _).far (by show w.heap.size ≠ w.heap.size + 1 + 1; omega) _).drew, ((H1.s14 _).s15 _).drew, ((R1.far (by show w.heap.size + 1 ≠ w.heap.size + 1 + 1; omega) _).far (by show w.heap.size + 1 ≠ w.heap.size + 1 + 1; omega) _).drew, ((B1.setCell (by show w.heap.size ≤ w.heap.size + 1 + 1; omega) _).setCell (by show w.heap.size ≤ w.heap.size + 1 + 1; omega) _).drew⟩ ?_
    clear q14 f14 r14 q15 f15 r15 c0 I1 H1 R1 B1
    rintro W ⟨I1, H1, R1, B1⟩
    have c0 := I1.c0
    have q18 := I1.c18
    have f18 := Blk.frozen H1 18
    have r18 := H1.c18
    have HN : ItAt (W.setCell ⟨w.heap.size + 1 + 1, 18, none⟩ (.int .i64 i.blend)) (w.heap.size + 1 + 1) bi := by rw [← EE]; exact (H1.s18 _)
    have RN : ItAt (W.setCell ⟨w.heap.size + 1 + 1, 18, none⟩ (.int .i64 i.blend)) (w.heap.size + 1) zeroI := (R1.far (by show w.heap.size + 1 ≠ w.heap.size + 1 + 1; omega) _)
    have BN : Below w.heap.size w (W.setCell ⟨w.heap.size + 1 + 1, 18, none⟩ (.int .i64 i.blend)) := (B1.setCell (by show w.heap.size ≤ w.heap.size + 1 + 1; omega) _)
    have lt1 := R1.lt
    have lt2 := H1.lt
    clear EE
    go_wp2_with (first | ((with_reducible refine go_loadI (.tmp 3) (w.heap.size + 1 + 1) bi (by with_unfolding_all rfl) HN ?_)) | ((with_reducible refine go_storeI (.tmp 2) (.tmp 87) (w.heap.size + 1) bi zeroI (by with_unfolding_all rfl) (by with_unfolding_all rfl) RN ?_)))
    refine bodyPost_ret (results_cell_row rfl _ _ (w.heap.size + 1) 25 (itA bi) (0, 0) _ rfl (show Blk _ _ _ _ from RN.row _) Tryz.underlying25 rfl (by kernel_rfl)) rfl ?_
    exact ⟨rfl, below_row BN (by omega) _⟩
  · have k1 : (i.kind == 1) = false := by rw [hk]; rfl
    have k2 : (i.kind == 2) = false := by rw [hk]; rfl
    have k3 : (i.kind == 3) = true := by rw [hk]; rfl
    have k6 : (i.kind == 6) = false := by rw [hk]; rfl
    have k7 : (i.kind == 7) = false := by rw [hk]; rfl
    have k8 : (i.kind == 8) = false := by rw [hk]; rfl
    have k9 : (i.kind == 9) = false := by rw [hk]; rfl
    have k10 : (i.kind == 10) = false := by rw [hk]; rfl
    have k11 : (i.kind == 11) = false := by rw [hk]; rfl
    have hmk : motK i.kind = true := by rw [hk]; rfl
    have hin : inK i.kind 2 6 = true := by rw [hk]; rfl
    have EE : baseI i = bi := HBI.out
    have E3 : baseI i = { feedI i (sideI i (wayI i)) with blend := i.blend, cx := i.cx, cy := i.cy, cz := i.cz, dir := i.dir, full := i.full } := by unfold baseI; rw [hk]; rfl
    clear hk HBI
    rw [hmk]
    rw [hin] at KIN
    clear hmk hin
    go_wp2_with fail
    have q2 := I1.c2
    have f2 := Blk.frozen H1 2
    have r2 := H1.c2
    have q3 := I1.c3
    have f3 := Blk.frozen H1 3
    have r3 := H1.c3
    have q4 := I1.c4
    have f4 := Blk.frozen H1 4
    have r4 := H1.c4
    have q5 := I1.c5
    have f5 := Blk.frozen H1 5
    have r5 := H1.c5
    have q6 := I1.c6
    have f6 := Blk.frozen H1 6
    have r6 := H1.c6
    have q7 := I1.c7
    have f7 := Blk.frozen H1 7
    have r7 := H1.c7
    go_region_held3 (fun w' => w'.cell? ⟨w.heap.size, 2, none⟩ = some (.int .i64 i.fx) ∧ w'.cell? ⟨w.heap.size, 3, none⟩ = some (.int .i64 i.fy) ∧ w'.cell? ⟨w.heap.size, 4, none⟩ = some (.int .i64 i.fz) ∧ w'.cell? ⟨w.heap.size, 5, none⟩ = some (.int .i64 i.tx) ∧ w'.cell? ⟨w.heap.size, 6, none⟩ = some (.int .i64 i.ty) ∧ w'.cell? ⟨w.heap.size, 7, none⟩ = some (.int .i64 i.tz)) (go_keep) (fail)
    refine on_told (fun W' => ItAt W' w.heap.size i ∧ ItAt W' (w.heap.size + 1 + 1) (wayI i) ∧ ItAt W' (w.heap.size + 1) zeroI ∧ Below w.heap.size w W') ⟨((((((I1.far (by show w.heap.size ≠ w.heap.size + 1 + 1; omega) _).far (by show w.heap.size ≠ w.heap.size + 1 + 1; omega) _).far (by show w.heap.size ≠ w.heap.size + 1 + 1; omega) _).far (by show w.heap.size ≠ w.heap.size + 1 + 1; omega) _).far (by show w.heap.size ≠ w.heap.size + 1 + 1; omega) _).far (by show w.heap.size ≠ w.heap.size + 1 + 1; omega) _).drew, ((((((H1.s2 _).s3 _).s4 _).s5 _).s6 _).s7 _).drew, ((((((R1.far (by show w.heap.size + 1 ≠ w.heap.size + 1 + 1; omega) _).far (by show w.heap.size + 1 ≠ w.heap.size + 1 + 1; omega) _).far (by show w.heap.size + 1 ≠ w.heap.size + 1 + 1; omega) _).far (by show w.heap.size + 1 ≠ w.heap.size + 1 + 1; omega) _).far (by show w.heap.size + 1 ≠ w.heap.size + 1 + 1; omega) _).far (by show w.heap.size + 1 ≠ w.heap.size + 1 + 1; omega) _).drew, ((((((B1.setCell (by show w.heap.size ≤ w.heap.size + 1 + 1; omega) _).setCell (by show w.heap.size ≤ w.heap.size + 1 + 1; omega) _).setCell (by show w.heap.size ≤ w.heap.size + 1 + 1; omega) _).setCell (by show w.heap.size ≤ w.heap.size + 1 + 1; omega) _).setCell (by show w.heap.size ≤ w.heap.size + 1 + 1; omega) _).setCell (by show w.heap.size ≤ w.heap.size + 1 + 1; omega) _).drew⟩ ?_
    clear q2 f2 r2 q3 f3 r3 q4 f4 r4 q5 f5 r5 q6 f6 r6 q7 f7 r7 c0 I1 H1 R1 B1
    rintro W ⟨I1, H1, R1, B1⟩
    have c0 := I1.c0
    go_wp2_with fail
    have q16 := I1.c16
    have f16 := Blk.frozen H1 16
    have r16 := H1.c16
    have q8 := I1.c8
    have f8 := Blk.frozen H1 8
    have r8 := H1.c8
    have q17 := I1.c17
    have f17 := Blk.frozen H1 17
    have r17 := H1.c17
    go_region_held3 (fun w' => w'.cell? ⟨w.heap.size, 16, none⟩ = some (.int .i64 i.side) ∧ w'.cell? ⟨w.heap.size, 8, none⟩ = some (.int .i64 i.plane) ∧ w'.cell? ⟨w.heap.size, 17, none⟩ = some (.int .i64 i.radius)) (go_keep) (fail)
    refine on_told (fun W' => ItAt W' w.heap.size i ∧ ItAt W' (w.heap.size + 1 + 1) (sideI i (wayI i)) ∧ ItAt W' (w.heap.size + 1) zeroI ∧ Below w.heap.size w W') ⟨(((I1.far (by show w.heap.size ≠ w.heap.size + 1 + 1; omega) _).far (by show w.heap.size ≠ w.heap.size + 1 + 1; omega) _).far (by show w.heap.size ≠ w.heap.size + 1 + 1; omega) _).drew, (((H1.s16 _).s8 _).s17 _).drew, (((R1.far (by show w.heap.size + 1 ≠ w.heap.size + 1 + 1; omega) _).far (by show w.heap.size + 1 ≠ w.heap.size + 1 + 1; omega) _).far (by show w.heap.size + 1 ≠ w.heap.size + 1 + 1; omega) _).drew, (((B1.setCell (by show w.heap.size ≤ w.heap.size + 1 + 1; omega) _).setCell (by show w.heap.size ≤ w.heap.size + 1 + 1; omega) _).setCell (by show w.heap.size ≤ w.heap.size + 1 + 1; omega) _).drew⟩ ?_
    clear q16 f16 r16 q8 f8 r8 q17 f17 r17 c0 I1 H1 R1 B1
    rintro W ⟨I1, H1, R1, B1⟩
    have c0 := I1.c0
    go_wp2_with fail
    refine (KIN.out _).mono ?_
    rintro e w' ⟨rfl, rfl⟩
    go_wp2_with fail
    have q14 := I1.c14
    have f14 := Blk.frozen H1 14
    have r14 := H1.c14
    have q15 := I1.c15
    have f15 := Blk.frozen H1 15
    have r15 := H1.c15
    go_region_held3 (fun w' => w'.cell? ⟨w.heap.size, 14, none⟩ = some (.int .i64 i.feed) ∧ w'.cell? ⟨w.heap.size, 15, none⟩ = some (.bool i.perRev)) (go_keep) (fail)
    refine on_told (fun W' => ItAt W' w.heap.size i ∧ ItAt W' (w.heap.size + 1 + 1) (feedI i (sideI i (wayI i))) ∧ ItAt W' (w.heap.size + 1) zeroI ∧ Below w.heap.size w W') ⟨((I1.far (by show w.heap.size ≠ w.heap.size + 1 + 1; omega) _).far (by show w.heap.size ≠ w.heap.size + 1 + 1; omega) _).drew, ((H1.s14 _).s15 _).drew, ((R1.far (by show w.heap.size + 1 ≠ w.heap.size + 1 + 1; omega) _).far (by show w.heap.size + 1 ≠ w.heap.size + 1 + 1; omega) _).drew, ((B1.setCell (by show w.heap.size ≤ w.heap.size + 1 + 1; omega) _).setCell (by show w.heap.size ≤ w.heap.size + 1 + 1; omega) _).drew⟩ ?_
    clear q14 f14 r14 q15 f15 r15 c0 I1 H1 R1 B1
    rintro W ⟨I1, H1, R1, B1⟩
    have c0 := I1.c0
    go_wp2_with fail
    have q18 := I1.c18
    have f18 := Blk.frozen H1 18
    have r18 := H1.c18
    have q9 := I1.c9
    have f9 := Blk.frozen H1 9
    have r9 := H1.c9
    have q10 := I1.c10
    have f10 := Blk.frozen H1 10
    have r10 := H1.c10
    have q11 := I1.c11
    have f11 := Blk.frozen H1 11
    have r11 := H1.c11
    have q12 := I1.c12
    have f12 := Blk.frozen H1 12
    have r12 := H1.c12
    have q13 := I1.c13
    have f13 := Blk.frozen H1 13
    have r13 := H1.c13
    go_region_held3 (fun w' => w'.cell? ⟨w.heap.size, 18, none⟩ = some (.int .i64 i.blend) ∧ w'.cell? ⟨w.heap.size, 9, none⟩ = some (.int .i64 i.cx) ∧ w'.cell? ⟨w.heap.size, 10, none⟩ = some (.int .i64 i.cy) ∧ w'.cell? ⟨w.heap.size, 11, none⟩ = some (.int .i64 i.cz) ∧ w'.cell? ⟨w.heap.size, 12, none⟩ = some (.int .i64 i.dir) ∧ w'.cell? ⟨w.heap.size, 13, none⟩ = some (.bool i.full)) (go_keep) (fail)
    refine on_told (fun W' => ItAt W' w.heap.size i ∧ ItAt W' (w.heap.size + 1 + 1) ({ feedI i (sideI i (wayI i)) with blend := i.blend, cx := i.cx, cy := i.cy, cz := i.cz, dir := i.dir, full := i.full }) ∧ ItAt W' (w.heap.size + 1) zeroI ∧ Below w.heap.size w W') ⟨((((((I1.far (by show w.heap.size ≠ w.heap.size + 1 + 1; omega) _).far (by show w.heap.size ≠ w.heap.size + 1 + 1; omega) _).far (by show w.heap.size ≠ w.heap.size + 1 + 1; omega) _).far (by show w.heap.size ≠ w.heap.size + 1 + 1; omega) _).far (by show w.heap.size ≠ w.heap.size + 1 + 1; omega) _).far (by show w.heap.size ≠ w.heap.size + 1 + 1; omega) _).drew, ((((((H1.s18 _).s9 _).s10 _).s11 _).s12 _).s13 _).drew, ((((((R1.far (by show w.heap.size + 1 ≠ w.heap.size + 1 + 1; omega) _).far (by show w.heap.size + 1 ≠ w.heap.size + 1 + 1; omega) _).far (by show w.heap.size + 1 ≠ w.heap.size + 1 + 1; omega) _).far (by show w.heap.size + 1 ≠ w.heap.size + 1 + 1; omega) _).far (by show w.heap.size + 1 ≠ w.heap.size + 1 + 1; omega) _).far (by show w.heap.size + 1 ≠ w.heap.size + 1 + 1; omega) _).drew, ((((((B1.setCell (by show w.heap.size ≤ w.heap.size + 1 + 1; omega) _).setCell (by show w.heap.size ≤ w.heap.size + 1 + 1; omega) _).setCell (by show w.heap.size ≤ w.heap.size + 1 + 1; omega) _).setCell (by show w.heap.size ≤ w.heap.size + 1 + 1; omega) _).setCell (by show w.heap.size ≤ w.heap.size + 1 + 1; omega) _).setCell (by show w.heap.size ≤ w.heap.size + 1 + 1; omega) _).drew⟩ ?_
    clear q18 f18 r18 q9 f9 r9 q10 f10 r10 q11 f11 r11 q12 f12 r12 q13 f13 r13 c0 I1 H1 R1 B1
    rintro W ⟨I1, H1, R1, B1⟩
    have c0 := I1.c0
    rw [← E3] at H1
    have HN : ItAt W (w.heap.size + 1 + 1) bi := by rw [← EE]; exact H1
    have RN : ItAt W (w.heap.size + 1) zeroI := R1
    have BN : Below w.heap.size w W := B1
    have lt1 := R1.lt
    have lt2 := H1.lt
    clear EE
    go_wp2_with (first | ((with_reducible refine go_loadI (.tmp 3) (w.heap.size + 1 + 1) bi (by with_unfolding_all rfl) HN ?_)) | ((with_reducible refine go_storeI (.tmp 2) (.tmp 87) (w.heap.size + 1) bi zeroI (by with_unfolding_all rfl) (by with_unfolding_all rfl) RN ?_)))
    refine bodyPost_ret (results_cell_row rfl _ _ (w.heap.size + 1) 25 (itA bi) (0, 0) _ rfl (show Blk _ _ _ _ from RN.row _) Tryz.underlying25 rfl (by kernel_rfl)) rfl ?_
    exact ⟨rfl, below_row BN (by omega) _⟩
  · have k1 : (i.kind == 1) = false := by rw [hk]; rfl
    have k2 : (i.kind == 2) = false := by rw [hk]; rfl
    have k3 : (i.kind == 3) = false := by rw [hk]; rfl
    have k6 : (i.kind == 6) = false := by rw [hk]; rfl
    have k7 : (i.kind == 7) = false := by rw [hk]; rfl
    have k8 : (i.kind == 8) = false := by rw [hk]; rfl
    have k9 : (i.kind == 9) = false := by rw [hk]; rfl
    have k10 : (i.kind == 10) = false := by rw [hk]; rfl
    have k11 : (i.kind == 11) = false := by rw [hk]; rfl
    have hmk : motK i.kind = true := by rw [hk]; rfl
    have hin : inK i.kind 2 6 = true := by rw [hk]; rfl
    have EE : baseI i = bi := HBI.out
    have EE : feedI i (wayI i) = bi := by rw [← HBI.out]; unfold baseI; rw [hk]; rfl
    clear hk HBI
    rw [hmk]
    rw [hin] at KIN
    clear hmk hin
    go_wp2_with fail
    have q2 := I1.c2
    have f2 := Blk.frozen H1 2
    have r2 := H1.c2
    have q3 := I1.c3
    have f3 := Blk.frozen H1 3
    have r3 := H1.c3
    have q4 := I1.c4
    have f4 := Blk.frozen H1 4
    have r4 := H1.c4
    have q5 := I1.c5
    have f5 := Blk.frozen H1 5
    have r5 := H1.c5
    have q6 := I1.c6
    have f6 := Blk.frozen H1 6
    have r6 := H1.c6
    have q7 := I1.c7
    have f7 := Blk.frozen H1 7
    have r7 := H1.c7
    go_region_held3 (fun w' => w'.cell? ⟨w.heap.size, 2, none⟩ = some (.int .i64 i.fx) ∧ w'.cell? ⟨w.heap.size, 3, none⟩ = some (.int .i64 i.fy) ∧ w'.cell? ⟨w.heap.size, 4, none⟩ = some (.int .i64 i.fz) ∧ w'.cell? ⟨w.heap.size, 5, none⟩ = some (.int .i64 i.tx) ∧ w'.cell? ⟨w.heap.size, 6, none⟩ = some (.int .i64 i.ty) ∧ w'.cell? ⟨w.heap.size, 7, none⟩ = some (.int .i64 i.tz)) (go_keep) (fail)
    refine on_told (fun W' => ItAt W' w.heap.size i ∧ ItAt W' (w.heap.size + 1 + 1) (wayI i) ∧ ItAt W' (w.heap.size + 1) zeroI ∧ Below w.heap.size w W') ⟨((((((I1.far (by show w.heap.size ≠ w.heap.size + 1 + 1; omega) _).far (by show w.heap.size ≠ w.heap.size + 1 + 1; omega) _).far (by show w.heap.size ≠ w.heap.size + 1 + 1; omega) _).far (by show w.heap.size ≠ w.heap.size + 1 + 1; omega) _).far (by show w.heap.size ≠ w.heap.size + 1 + 1; omega) _).far (by show w.heap.size ≠ w.heap.size + 1 + 1; omega) _).drew, ((((((H1.s2 _).s3 _).s4 _).s5 _).s6 _).s7 _).drew, ((((((R1.far (by show w.heap.size + 1 ≠ w.heap.size + 1 + 1; omega) _).far (by show w.heap.size + 1 ≠ w.heap.size + 1 + 1; omega) _).far (by show w.heap.size + 1 ≠ w.heap.size + 1 + 1; omega) _).far (by show w.heap.size + 1 ≠ w.heap.size + 1 + 1; omega) _).far (by show w.heap.size + 1 ≠ w.heap.size + 1 + 1; omega) _).far (by show w.heap.size + 1 ≠ w.heap.size + 1 + 1; omega) _).drew, ((((((B1.setCell (by show w.heap.size ≤ w.heap.size + 1 + 1; omega) _).setCell (by show w.heap.size ≤ w.heap.size + 1 + 1; omega) _).setCell (by show w.heap.size ≤ w.heap.size + 1 + 1; omega) _).setCell (by show w.heap.size ≤ w.heap.size + 1 + 1; omega) _).setCell (by show w.heap.size ≤ w.heap.size + 1 + 1; omega) _).setCell (by show w.heap.size ≤ w.heap.size + 1 + 1; omega) _).drew⟩ ?_
    clear q2 f2 r2 q3 f3 r3 q4 f4 r4 q5 f5 r5 q6 f6 r6 q7 f7 r7 c0 I1 H1 R1 B1
    rintro W ⟨I1, H1, R1, B1⟩
    have c0 := I1.c0
    go_wp2_with fail
    refine (KIN.out _).mono ?_
    rintro e w' ⟨rfl, rfl⟩
    go_wp2_with fail
    have q14 := I1.c14
    have f14 := Blk.frozen H1 14
    have r14 := H1.c14
    have q15 := I1.c15
    have f15 := Blk.frozen H1 15
    have r15 := H1.c15
    go_region_held3 (fun w' => w'.cell? ⟨w.heap.size, 14, none⟩ = some (.int .i64 i.feed) ∧ w'.cell? ⟨w.heap.size, 15, none⟩ = some (.bool i.perRev)) (go_keep) (fail)
    refine on_told (fun W' => ItAt W' w.heap.size i ∧ ItAt W' (w.heap.size + 1 + 1) (feedI i (wayI i)) ∧ ItAt W' (w.heap.size + 1) zeroI ∧ Below w.heap.size w W') ⟨((I1.far (by show w.heap.size ≠ w.heap.size + 1 + 1; omega) _).far (by show w.heap.size ≠ w.heap.size + 1 + 1; omega) _).drew, ((H1.s14 _).s15 _).drew, ((R1.far (by show w.heap.size + 1 ≠ w.heap.size + 1 + 1; omega) _).far (by show w.heap.size + 1 ≠ w.heap.size + 1 + 1; omega) _).drew, ((B1.setCell (by show w.heap.size ≤ w.heap.size + 1 + 1; omega) _).setCell (by show w.heap.size ≤ w.heap.size + 1 + 1; omega) _).drew⟩ ?_
    clear q14 f14 r14 q15 f15 r15 c0 I1 H1 R1 B1
    rintro W ⟨I1, H1, R1, B1⟩
    have c0 := I1.c0
    have HN : ItAt W (w.heap.size + 1 + 1) bi := by rw [← EE]; exact H1
    have RN : ItAt W (w.heap.size + 1) zeroI := R1
    have BN : Below w.heap.size w W := B1
    have lt1 := R1.lt
    have lt2 := H1.lt
    clear EE
    go_wp2_with (first | ((with_reducible refine go_loadI (.tmp 3) (w.heap.size + 1 + 1) bi (by with_unfolding_all rfl) HN ?_)) | ((with_reducible refine go_storeI (.tmp 2) (.tmp 87) (w.heap.size + 1) bi zeroI (by with_unfolding_all rfl) (by with_unfolding_all rfl) RN ?_)))
    refine bodyPost_ret (results_cell_row rfl _ _ (w.heap.size + 1) 25 (itA bi) (0, 0) _ rfl (show Blk _ _ _ _ from RN.row _) Tryz.underlying25 rfl (by kernel_rfl)) rfl ?_
    exact ⟨rfl, below_row BN (by omega) _⟩
  · have k1 : (i.kind == 1) = false := by rw [hk]; rfl
    have k2 : (i.kind == 2) = false := by rw [hk]; rfl
    have k3 : (i.kind == 3) = false := by rw [hk]; rfl
    have k6 : (i.kind == 6) = false := by rw [hk]; rfl
    have k7 : (i.kind == 7) = false := by rw [hk]; rfl
    have k8 : (i.kind == 8) = false := by rw [hk]; rfl
    have k9 : (i.kind == 9) = false := by rw [hk]; rfl
    have k10 : (i.kind == 10) = false := by rw [hk]; rfl
    have k11 : (i.kind == 11) = false := by rw [hk]; rfl
    have hmk : motK i.kind = true := by rw [hk]; rfl
    have hin : inK i.kind 2 6 = true := by rw [hk]; rfl
    have EE : baseI i = bi := HBI.out
    have EE : feedI i (wayI i) = bi := by rw [← HBI.out]; unfold baseI; rw [hk]; rfl
    clear hk HBI
    rw [hmk]
    rw [hin] at KIN
    clear hmk hin
    go_wp2_with fail
    have q2 := I1.c2
    have f2 := Blk.frozen H1 2
    have r2 := H1.c2
    have q3 := I1.c3
    have f3 := Blk.frozen H1 3
    have r3 := H1.c3
    have q4 := I1.c4
    have f4 := Blk.frozen H1 4
    have r4 := H1.c4
    have q5 := I1.c5
    have f5 := Blk.frozen H1 5
    have r5 := H1.c5
    have q6 := I1.c6
    have f6 := Blk.frozen H1 6
    have r6 := H1.c6
    have q7 := I1.c7
    have f7 := Blk.frozen H1 7
    have r7 := H1.c7
    go_region_held3 (fun w' => w'.cell? ⟨w.heap.size, 2, none⟩ = some (.int .i64 i.fx) ∧ w'.cell? ⟨w.heap.size, 3, none⟩ = some (.int .i64 i.fy) ∧ w'.cell? ⟨w.heap.size, 4, none⟩ = some (.int .i64 i.fz) ∧ w'.cell? ⟨w.heap.size, 5, none⟩ = some (.int .i64 i.tx) ∧ w'.cell? ⟨w.heap.size, 6, none⟩ = some (.int .i64 i.ty) ∧ w'.cell? ⟨w.heap.size, 7, none⟩ = some (.int .i64 i.tz)) (go_keep) (fail)
    refine on_told (fun W' => ItAt W' w.heap.size i ∧ ItAt W' (w.heap.size + 1 + 1) (wayI i) ∧ ItAt W' (w.heap.size + 1) zeroI ∧ Below w.heap.size w W') ⟨((((((I1.far (by show w.heap.size ≠ w.heap.size + 1 + 1; omega) _).far (by show w.heap.size ≠ w.heap.size + 1 + 1; omega) _).far (by show w.heap.size ≠ w.heap.size + 1 + 1; omega) _).far (by show w.heap.size ≠ w.heap.size + 1 + 1; omega) _).far (by show w.heap.size ≠ w.heap.size + 1 + 1; omega) _).far (by show w.heap.size ≠ w.heap.size + 1 + 1; omega) _).drew, ((((((H1.s2 _).s3 _).s4 _).s5 _).s6 _).s7 _).drew, ((((((R1.far (by show w.heap.size + 1 ≠ w.heap.size + 1 + 1; omega) _).far (by show w.heap.size + 1 ≠ w.heap.size + 1 + 1; omega) _).far (by show w.heap.size + 1 ≠ w.heap.size + 1 + 1; omega) _).far (by show w.heap.size + 1 ≠ w.heap.size + 1 + 1; omega) _).far (by show w.heap.size + 1 ≠ w.heap.size + 1 + 1; omega) _).far (by show w.heap.size + 1 ≠ w.heap.size + 1 + 1; omega) _).drew, ((((((B1.setCell (by show w.heap.size ≤ w.heap.size + 1 + 1; omega) _).setCell (by show w.heap.size ≤ w.heap.size + 1 + 1; omega) _).setCell (by show w.heap.size ≤ w.heap.size + 1 + 1; omega) _).setCell (by show w.heap.size ≤ w.heap.size + 1 + 1; omega) _).setCell (by show w.heap.size ≤ w.heap.size + 1 + 1; omega) _).setCell (by show w.heap.size ≤ w.heap.size + 1 + 1; omega) _).drew⟩ ?_
    clear q2 f2 r2 q3 f3 r3 q4 f4 r4 q5 f5 r5 q6 f6 r6 q7 f7 r7 c0 I1 H1 R1 B1
    rintro W ⟨I1, H1, R1, B1⟩
    have c0 := I1.c0
    go_wp2_with fail
    refine (KIN.out _).mono ?_
    rintro e w' ⟨rfl, rfl⟩
    go_wp2_with fail
    have q14 := I1.c14
    have f14 := Blk.frozen H1 14
    have r14 := H1.c14
    have q15 := I1.c15
    have f15 := Blk.frozen H1 15
    have r15 := H1.c15
    go_region_held3 (fun w' => w'.cell? ⟨w.heap.size, 14, none⟩ = some (.int .i64 i.feed) ∧ w'.cell? ⟨w.heap.size, 15, none⟩ = some (.bool i.perRev)) (go_keep) (fail)
    refine on_told (fun W' => ItAt W' w.heap.size i ∧ ItAt W' (w.heap.size + 1 + 1) (feedI i (wayI i)) ∧ ItAt W' (w.heap.size + 1) zeroI ∧ Below w.heap.size w W') ⟨((I1.far (by show w.heap.size ≠ w.heap.size + 1 + 1; omega) _).far (by show w.heap.size ≠ w.heap.size + 1 + 1; omega) _).drew, ((H1.s14 _).s15 _).drew, ((R1.far (by show w.heap.size + 1 ≠ w.heap.size + 1 + 1; omega) _).far (by show w.heap.size + 1 ≠ w.heap.size + 1 + 1; omega) _).drew, ((B1.setCell (by show w.heap.size ≤ w.heap.size + 1 + 1; omega) _).setCell (by show w.heap.size ≤ w.heap.size + 1 + 1; omega) _).drew⟩ ?_
    clear q14 f14 r14 q15 f15 r15 c0 I1 H1 R1 B1
    rintro W ⟨I1, H1, R1, B1⟩
    have c0 := I1.c0
    have HN : ItAt W (w.heap.size + 1 + 1) bi := by rw [← EE]; exact H1
    have RN : ItAt W (w.heap.size + 1) zeroI := R1
    have BN : Below w.heap.size w W := B1
    have lt1 := R1.lt
    have lt2 := H1.lt
    clear EE
    go_wp2_with (first | ((with_reducible refine go_loadI (.tmp 3) (w.heap.size + 1 + 1) bi (by with_unfolding_all rfl) HN ?_)) | ((with_reducible refine go_storeI (.tmp 2) (.tmp 87) (w.heap.size + 1) bi zeroI (by with_unfolding_all rfl) (by with_unfolding_all rfl) RN ?_)))
    refine bodyPost_ret (results_cell_row rfl _ _ (w.heap.size + 1) 25 (itA bi) (0, 0) _ rfl (show Blk _ _ _ _ from RN.row _) Tryz.underlying25 rfl (by kernel_rfl)) rfl ?_
    exact ⟨rfl, below_row BN (by omega) _⟩
  · have k1 : (i.kind == 1) = false := by rw [hk]; rfl
    have k2 : (i.kind == 2) = false := by rw [hk]; rfl
    have k3 : (i.kind == 3) = false := by rw [hk]; rfl
    have k6 : (i.kind == 6) = true := by rw [hk]; rfl
    have k7 : (i.kind == 7) = false := by rw [hk]; rfl
    have k8 : (i.kind == 8) = false := by rw [hk]; rfl
    have k9 : (i.kind == 9) = false := by rw [hk]; rfl
    have k10 : (i.kind == 10) = false := by rw [hk]; rfl
    have k11 : (i.kind == 11) = false := by rw [hk]; rfl
    have hmk : motK i.kind = true := by rw [hk]; rfl
    have hin : inK i.kind 2 6 = true := by rw [hk]; rfl
    have EE : baseI i = bi := HBI.out
    have EE : { feedI i (wayI i) with n := i.n } = bi := by rw [← HBI.out]; unfold baseI; rw [hk]; rfl
    clear hk HBI
    rw [hmk]
    rw [hin] at KIN
    clear hmk hin
    go_wp2_with fail
    have q2 := I1.c2
    have f2 := Blk.frozen H1 2
    have r2 := H1.c2
    have q3 := I1.c3
    have f3 := Blk.frozen H1 3
    have r3 := H1.c3
    have q4 := I1.c4
    have f4 := Blk.frozen H1 4
    have r4 := H1.c4
    have q5 := I1.c5
    have f5 := Blk.frozen H1 5
    have r5 := H1.c5
    have q6 := I1.c6
    have f6 := Blk.frozen H1 6
    have r6 := H1.c6
    have q7 := I1.c7
    have f7 := Blk.frozen H1 7
    have r7 := H1.c7
    go_region_held3 (fun w' => w'.cell? ⟨w.heap.size, 2, none⟩ = some (.int .i64 i.fx) ∧ w'.cell? ⟨w.heap.size, 3, none⟩ = some (.int .i64 i.fy) ∧ w'.cell? ⟨w.heap.size, 4, none⟩ = some (.int .i64 i.fz) ∧ w'.cell? ⟨w.heap.size, 5, none⟩ = some (.int .i64 i.tx) ∧ w'.cell? ⟨w.heap.size, 6, none⟩ = some (.int .i64 i.ty) ∧ w'.cell? ⟨w.heap.size, 7, none⟩ = some (.int .i64 i.tz)) (go_keep) (fail)
    refine on_told (fun W' => ItAt W' w.heap.size i ∧ ItAt W' (w.heap.size + 1 + 1) (wayI i) ∧ ItAt W' (w.heap.size + 1) zeroI ∧ Below w.heap.size w W') ⟨((((((I1.far (by show w.heap.size ≠ w.heap.size + 1 + 1; omega) _).far (by show w.heap.size ≠ w.heap.size + 1 + 1; omega) _).far (by show w.heap.size ≠ w.heap.size + 1 + 1; omega) _).far (by show w.heap.size ≠ w.heap.size + 1 + 1; omega) _).far (by show w.heap.size ≠ w.heap.size + 1 + 1; omega) _).far (by show w.heap.size ≠ w.heap.size + 1 + 1; omega) _).drew, ((((((H1.s2 _).s3 _).s4 _).s5 _).s6 _).s7 _).drew, ((((((R1.far (by show w.heap.size + 1 ≠ w.heap.size + 1 + 1; omega) _).far (by show w.heap.size + 1 ≠ w.heap.size + 1 + 1; omega) _).far (by show w.heap.size + 1 ≠ w.heap.size + 1 + 1; omega) _).far (by show w.heap.size + 1 ≠ w.heap.size + 1 + 1; omega) _).far (by show w.heap.size + 1 ≠ w.heap.size + 1 + 1; omega) _).far (by show w.heap.size + 1 ≠ w.heap.size + 1 + 1; omega) _).drew, ((((((B1.setCell (by show w.heap.size ≤ w.heap.size + 1 + 1; omega) _).setCell (by show w.heap.size ≤ w.heap.size + 1 + 1; omega) _).setCell (by show w.heap.size ≤ w.heap.size + 1 + 1; omega) _).setCell (by show w.heap.size ≤ w.heap.size + 1 + 1; omega) _).setCell (by show w.heap.size ≤ w.heap.size + 1 + 1; omega) _).setCell (by show w.heap.size ≤ w.heap.size + 1 + 1; omega) _).drew⟩ ?_
    clear q2 f2 r2 q3 f3 r3 q4 f4 r4 q5 f5 r5 q6 f6 r6 q7 f7 r7 c0 I1 H1 R1 B1
    rintro W ⟨I1, H1, R1, B1⟩
    have c0 := I1.c0
    go_wp2_with fail
    refine (KIN.out _).mono ?_
    rintro e w' ⟨rfl, rfl⟩
    go_wp2_with fail
    have q14 := I1.c14
    have f14 := Blk.frozen H1 14
    have r14 := H1.c14
    have q15 := I1.c15
    have f15 := Blk.frozen H1 15
    have r15 := H1.c15
    go_region_held3 (fun w' => w'.cell? ⟨w.heap.size, 14, none⟩ = some (.int .i64 i.feed) ∧ w'.cell? ⟨w.heap.size, 15, none⟩ = some (.bool i.perRev)) (go_keep) (fail)
    refine on_told (fun W' => ItAt W' w.heap.size i ∧ ItAt W' (w.heap.size + 1 + 1) (feedI i (wayI i)) ∧ ItAt W' (w.heap.size + 1) zeroI ∧ Below w.heap.size w W') ⟨((I1.far (by show w.heap.size ≠ w.heap.size + 1 + 1; omega) _).far (by show w.heap.size ≠ w.heap.size + 1 + 1; omega) _).drew, ((H1.s14 _).s15 _).drew, ((R1.far (by show w.heap.size + 1 ≠ w.heap.size + 1 + 1; omega) _).far (by show w.heap.size + 1 ≠ w.heap.size + 1 + 1; omega) _).drew, ((B1.setCell (by show w.heap.size ≤ w.heap.size + 1 + 1; omega) _).setCell (by show w.heap.size ≤ w.heap.size + 1 + 1; omega) _).drew⟩ ?_
    clear q14 f14 r14 q15 f15 r15 c0 I1 H1 R1 B1
    rintro W ⟨I1, H1, R1, B1⟩
    have c0 := I1.c0
    have q19 := I1.c19
    have f19 := Blk.frozen H1 19
    have r19 := H1.c19
    have HN : ItAt (W.setCell ⟨w.heap.size + 1 + 1, 19, none⟩ (.int .i64 i.n)) (w.heap.size + 1 + 1) bi := by rw [← EE]; exact (H1.s19 _)
    have RN : ItAt (W.setCell ⟨w.heap.size + 1 + 1, 19, none⟩ (.int .i64 i.n)) (w.heap.size + 1) zeroI := (R1.far (by show w.heap.size + 1 ≠ w.heap.size + 1 + 1; omega) _)
    have BN : Below w.heap.size w (W.setCell ⟨w.heap.size + 1 + 1, 19, none⟩ (.int .i64 i.n)) := (B1.setCell (by show w.heap.size ≤ w.heap.size + 1 + 1; omega) _)
    have lt1 := R1.lt
    have lt2 := H1.lt
    clear EE
    go_wp2_with (first | ((with_reducible refine go_loadI (.tmp 3) (w.heap.size + 1 + 1) bi (by with_unfolding_all rfl) HN ?_)) | ((with_reducible refine go_storeI (.tmp 2) (.tmp 87) (w.heap.size + 1) bi zeroI (by with_unfolding_all rfl) (by with_unfolding_all rfl) RN ?_)))
    refine bodyPost_ret (results_cell_row rfl _ _ (w.heap.size + 1) 25 (itA bi) (0, 0) _ rfl (show Blk _ _ _ _ from RN.row _) Tryz.underlying25 rfl (by kernel_rfl)) rfl ?_
    exact ⟨rfl, below_row BN (by omega) _⟩
  · have k1 : (i.kind == 1) = false := by rw [hk]; rfl
    have k2 : (i.kind == 2) = false := by rw [hk]; rfl
    have k3 : (i.kind == 3) = false := by rw [hk]; rfl
    have k6 : (i.kind == 6) = false := by rw [hk]; rfl
    have k7 : (i.kind == 7) = true := by rw [hk]; rfl
    have k8 : (i.kind == 8) = false := by rw [hk]; rfl
    have k9 : (i.kind == 9) = false := by rw [hk]; rfl
    have k10 : (i.kind == 10) = false := by rw [hk]; rfl
    have k11 : (i.kind == 11) = false := by rw [hk]; rfl
    have hmk : motK i.kind = false := by rw [hk]; rfl
    have hin : inK i.kind 2 6 = false := by rw [hk]; rfl
    have EE : baseI i = bi := HBI.out
    have EE : { headI i with n := i.n } = bi := by rw [← HBI.out]; unfold baseI; rw [hk]; rfl
    clear hk HBI
    rw [hmk]
    rw [hin] at KIN
    clear hmk hin
    go_wp2_with fail
    refine (KIN.out _).mono ?_
    rintro e w' ⟨rfl, rfl⟩
    have q19 := I1.c19
    have f19 := Blk.frozen H1 19
    have r19 := H1.c19
    have HN : ItAt (W.setCell ⟨w.heap.size + 1 + 1, 19, none⟩ (.int .i64 i.n)) (w.heap.size + 1 + 1) bi := by rw [← EE]; exact (H1.s19 _)
    have RN : ItAt (W.setCell ⟨w.heap.size + 1 + 1, 19, none⟩ (.int .i64 i.n)) (w.heap.size + 1) zeroI := (R1.far (by show w.heap.size + 1 ≠ w.heap.size + 1 + 1; omega) _)
    have BN : Below w.heap.size w (W.setCell ⟨w.heap.size + 1 + 1, 19, none⟩ (.int .i64 i.n)) := (B1.setCell (by show w.heap.size ≤ w.heap.size + 1 + 1; omega) _)
    have lt1 := R1.lt
    have lt2 := H1.lt
    clear EE
    go_wp2_with (first | ((with_reducible refine go_loadI (.tmp 3) (w.heap.size + 1 + 1) bi (by with_unfolding_all rfl) HN ?_)) | ((with_reducible refine go_storeI (.tmp 2) (.tmp 87) (w.heap.size + 1) bi zeroI (by with_unfolding_all rfl) (by with_unfolding_all rfl) RN ?_)))
    refine bodyPost_ret (results_cell_row rfl _ _ (w.heap.size + 1) 25 (itA bi) (0, 0) _ rfl (show Blk _ _ _ _ from RN.row _) Tryz.underlying25 rfl (by kernel_rfl)) rfl ?_
    exact ⟨rfl, below_row BN (by omega) _⟩
  · have k1 : (i.kind == 1) = false := by rw [hk]; rfl
    have k2 : (i.kind == 2) = false := by rw [hk]; rfl
    have k3 : (i.kind == 3) = false := by rw [hk]; rfl
    have k6 : (i.kind == 6) = false := by rw [hk]; rfl
    have k7 : (i.kind == 7) = false := by rw [hk]; rfl
    have k8 : (i.kind == 8) = true := by rw [hk]; rfl
    have k9 : (i.kind == 9) = false := by rw [hk]; rfl
    have k10 : (i.kind == 10) = false := by rw [hk]; rfl
    have k11 : (i.kind == 11) = false := by rw [hk]; rfl
    have hmk : motK i.kind = false := by rw [hk]; rfl
    have hin : inK i.kind 2 6 = false := by rw [hk]; rfl
    have EE : baseI i = bi := HBI.out
    have EE : { headI i with n := i.n, speed := i.speed } = bi := by rw [← HBI.out]; unfold baseI; rw [hk]; rfl
    clear hk HBI
    rw [hmk]
    rw [hin] at KIN
    clear hmk hin
    go_wp2_with fail
    refine (KIN.out _).mono ?_
    rintro e w' ⟨rfl, rfl⟩
    go_wp2_with fail
    have q19 := I1.c19
    have f19 := Blk.frozen H1 19
    have r19 := H1.c19
    have q20 := I1.c20
    have f20 := Blk.frozen H1 20
    have r20 := H1.c20
    go_region_held3 (fun w' => w'.cell? ⟨w.heap.size, 19, none⟩ = some (.int .i64 i.n) ∧ w'.cell? ⟨w.heap.size, 20, none⟩ = some (.int .i64 i.speed)) (go_keep) (fail)
    refine on_told (fun W' => ItAt W' w.heap.size i ∧ ItAt W' (w.heap.size + 1 + 1) ({ headI i with n := i.n, speed := i.speed }) ∧ ItAt W' (w.heap.size + 1) zeroI ∧ Below w.heap.size w W') ⟨((I1.far (by show w.heap.size ≠ w.heap.size + 1 + 1; omega) _).far (by show w.heap.size ≠ w.heap.size + 1 + 1; omega) _).drew, ((H1.s19 _).s20 _).drew, ((R1.far (by show w.heap.size + 1 ≠ w.heap.size + 1 + 1; omega) _).far (by show w.heap.size + 1 ≠ w.heap.size + 1 + 1; omega) _).drew, ((B1.setCell (by show w.heap.size ≤ w.heap.size + 1 + 1; omega) _).setCell (by show w.heap.size ≤ w.heap.size + 1 + 1; omega) _).drew⟩ ?_
    clear q19 f19 r19 q20 f20 r20 c0 I1 H1 R1 B1
    rintro W ⟨I1, H1, R1, B1⟩
    have c0 := I1.c0
    have HN : ItAt W (w.heap.size + 1 + 1) bi := by rw [← EE]; exact H1
    have RN : ItAt W (w.heap.size + 1) zeroI := R1
    have BN : Below w.heap.size w W := B1
    have lt1 := R1.lt
    have lt2 := H1.lt
    clear EE
    go_wp2_with (first | ((with_reducible refine go_loadI (.tmp 3) (w.heap.size + 1 + 1) bi (by with_unfolding_all rfl) HN ?_)) | ((with_reducible refine go_storeI (.tmp 2) (.tmp 87) (w.heap.size + 1) bi zeroI (by with_unfolding_all rfl) (by with_unfolding_all rfl) RN ?_)))
    refine bodyPost_ret (results_cell_row rfl _ _ (w.heap.size + 1) 25 (itA bi) (0, 0) _ rfl (show Blk _ _ _ _ from RN.row _) Tryz.underlying25 rfl (by kernel_rfl)) rfl ?_
    exact ⟨rfl, below_row BN (by omega) _⟩
  · have k1 : (i.kind == 1) = false := by rw [hk]; rfl
    have k2 : (i.kind == 2) = false := by rw [hk]; rfl
    have k3 : (i.kind == 3) = false := by rw [hk]; rfl
    have k6 : (i.kind == 6) = false := by rw [hk]; rfl
    have k7 : (i.kind == 7) = false := by rw [hk]; rfl
    have k8 : (i.kind == 8) = false := by rw [hk]; rfl
    have k9 : (i.kind == 9) = true := by rw [hk]; rfl
    have k10 : (i.kind == 10) = false := by rw [hk]; rfl
    have k11 : (i.kind == 11) = false := by rw [hk]; rfl
    have hmk : motK i.kind = false := by rw [hk]; rfl
    have hin : inK i.kind 2 6 = false := by rw [hk]; rfl
    have EE : baseI i = bi := HBI.out
    have EE : { headI i with n := i.n, on := i.on } = bi := by rw [← HBI.out]; unfold baseI; rw [hk]; rfl
    clear hk HBI
    rw [hmk]
    rw [hin] at KIN
    clear hmk hin
    go_wp2_with fail
    refine (KIN.out _).mono ?_
    rintro e w' ⟨rfl, rfl⟩
    go_wp2_with fail
    have q19 := I1.c19
    have f19 := Blk.frozen H1 19
    have r19 := H1.c19
    have q21 := I1.c21
    have f21 := Blk.frozen H1 21
    have r21 := H1.c21
    go_region_held3 (fun w' => w'.cell? ⟨w.heap.size, 19, none⟩ = some (.int .i64 i.n) ∧ w'.cell? ⟨w.heap.size, 21, none⟩ = some (.bool i.on)) (go_keep) (fail)
    refine on_told (fun W' => ItAt W' w.heap.size i ∧ ItAt W' (w.heap.size + 1 + 1) ({ headI i with n := i.n, on := i.on }) ∧ ItAt W' (w.heap.size + 1) zeroI ∧ Below w.heap.size w W') ⟨((I1.far (by show w.heap.size ≠ w.heap.size + 1 + 1; omega) _).far (by show w.heap.size ≠ w.heap.size + 1 + 1; omega) _).drew, ((H1.s19 _).s21 _).drew, ((R1.far (by show w.heap.size + 1 ≠ w.heap.size + 1 + 1; omega) _).far (by show w.heap.size + 1 ≠ w.heap.size + 1 + 1; omega) _).drew, ((B1.setCell (by show w.heap.size ≤ w.heap.size + 1 + 1; omega) _).setCell (by show w.heap.size ≤ w.heap.size + 1 + 1; omega) _).drew⟩ ?_
    clear q19 f19 r19 q21 f21 r21 c0 I1 H1 R1 B1
    rintro W ⟨I1, H1, R1, B1⟩
    have c0 := I1.c0
    have HN : ItAt W (w.heap.size + 1 + 1) bi := by rw [← EE]; exact H1
    have RN : ItAt W (w.heap.size + 1) zeroI := R1
    have BN : Below w.heap.size w W := B1
    have lt1 := R1.lt
    have lt2 := H1.lt
    clear EE
    go_wp2_with (first | ((with_reducible refine go_loadI (.tmp 3) (w.heap.size + 1 + 1) bi (by with_unfolding_all rfl) HN ?_)) | ((with_reducible refine go_storeI (.tmp 2) (.tmp 87) (w.heap.size + 1) bi zeroI (by with_unfolding_all rfl) (by with_unfolding_all rfl) RN ?_)))
    refine bodyPost_ret (results_cell_row rfl _ _ (w.heap.size + 1) 25 (itA bi) (0, 0) _ rfl (show Blk _ _ _ _ from RN.row _) Tryz.underlying25 rfl (by kernel_rfl)) rfl ?_
    exact ⟨rfl, below_row BN (by omega) _⟩
  · have k1 : (i.kind == 1) = false := by rw [hk]; rfl
    have k2 : (i.kind == 2) = false := by rw [hk]; rfl
    have k3 : (i.kind == 3) = false := by rw [hk]; rfl
    have k6 : (i.kind == 6) = false := by rw [hk]; rfl
    have k7 : (i.kind == 7) = false := by rw [hk]; rfl
    have k8 : (i.kind == 8) = false := by rw [hk]; rfl
    have k9 : (i.kind == 9) = false := by rw [hk]; rfl
    have k10 : (i.kind == 10) = true := by rw [hk]; rfl
    have k11 : (i.kind == 11) = false := by rw [hk]; rfl
    have hmk : motK i.kind = false := by rw [hk]; rfl
    have hin : inK i.kind 2 6 = false := by rw [hk]; rfl
    have EE : baseI i = bi := HBI.out
    have EE : { headI i with n := i.n, on := i.on } = bi := by rw [← HBI.out]; unfold baseI; rw [hk]; rfl
    clear hk HBI
    rw [hmk]
    rw [hin] at KIN
    clear hmk hin
    go_wp2_with fail
    refine (KIN.out _).mono ?_
    rintro e w' ⟨rfl, rfl⟩
    go_wp2_with fail
    have q19 := I1.c19
    have f19 := Blk.frozen H1 19
    have r19 := H1.c19
    have q21 := I1.c21
    have f21 := Blk.frozen H1 21
    have r21 := H1.c21
    go_region_held3 (fun w' => w'.cell? ⟨w.heap.size, 19, none⟩ = some (.int .i64 i.n) ∧ w'.cell? ⟨w.heap.size, 21, none⟩ = some (.bool i.on)) (go_keep) (fail)
    refine on_told (fun W' => ItAt W' w.heap.size i ∧ ItAt W' (w.heap.size + 1 + 1) ({ headI i with n := i.n, on := i.on }) ∧ ItAt W' (w.heap.size + 1) zeroI ∧ Below w.heap.size w W') ⟨((I1.far (by show w.heap.size ≠ w.heap.size + 1 + 1; omega) _).far (by show w.heap.size ≠ w.heap.size + 1 + 1; omega) _).drew, ((H1.s19 _).s21 _).drew, ((R1.far (by show w.heap.size + 1 ≠ w.heap.size + 1 + 1; omega) _).far (by show w.heap.size + 1 ≠ w.heap.size + 1 + 1; omega) _).drew, ((B1.setCell (by show w.heap.size ≤ w.heap.size + 1 + 1; omega) _).setCell (by show w.heap.size ≤ w.heap.size + 1 + 1; omega) _).drew⟩ ?_
    clear q19 f19 r19 q21 f21 r21 c0 I1 H1 R1 B1
    rintro W ⟨I1, H1, R1, B1⟩
    have c0 := I1.c0
    have HN : ItAt W (w.heap.size + 1 + 1) bi := by rw [← EE]; exact H1
    have RN : ItAt W (w.heap.size + 1) zeroI := R1
    have BN : Below w.heap.size w W := B1
    have lt1 := R1.lt
    have lt2 := H1.lt
    clear EE
    go_wp2_with (first | ((with_reducible refine go_loadI (.tmp 3) (w.heap.size + 1 + 1) bi (by with_unfolding_all rfl) HN ?_)) | ((with_reducible refine go_storeI (.tmp 2) (.tmp 87) (w.heap.size + 1) bi zeroI (by with_unfolding_all rfl) (by with_unfolding_all rfl) RN ?_)))
    refine bodyPost_ret (results_cell_row rfl _ _ (w.heap.size + 1) 25 (itA bi) (0, 0) _ rfl (show Blk _ _ _ _ from RN.row _) Tryz.underlying25 rfl (by kernel_rfl)) rfl ?_
    exact ⟨rfl, below_row BN (by omega) _⟩
  · have k1 : (i.kind == 1) = false := by rw [hk]; rfl
    have k2 : (i.kind == 2) = false := by rw [hk]; rfl
    have k3 : (i.kind == 3) = false := by rw [hk]; rfl
    have k6 : (i.kind == 6) = false := by rw [hk]; rfl
    have k7 : (i.kind == 7) = false := by rw [hk]; rfl
    have k8 : (i.kind == 8) = false := by rw [hk]; rfl
    have k9 : (i.kind == 9) = false := by rw [hk]; rfl
    have k10 : (i.kind == 10) = false := by rw [hk]; rfl
    have k11 : (i.kind == 11) = true := by rw [hk]; rfl
    have hmk : motK i.kind = false := by rw [hk]; rfl
    have hin : inK i.kind 2 6 = false := by rw [hk]; rfl
    have EE : baseI i = bi := HBI.out
    have EE : { headI i with n := i.n } = bi := by rw [← HBI.out]; unfold baseI; rw [hk]; rfl
    clear hk HBI
    rw [hmk]
    rw [hin] at KIN
    clear hmk hin
    go_wp2_with fail
    refine (KIN.out _).mono ?_
    rintro e w' ⟨rfl, rfl⟩
    have q19 := I1.c19
    have f19 := Blk.frozen H1 19
    have r19 := H1.c19
    have HN : ItAt (W.setCell ⟨w.heap.size + 1 + 1, 19, none⟩ (.int .i64 i.n)) (w.heap.size + 1 + 1) bi := by rw [← EE]; exact (H1.s19 _)
    have RN : ItAt (W.setCell ⟨w.heap.size + 1 + 1, 19, none⟩ (.int .i64 i.n)) (w.heap.size + 1) zeroI := (R1.far (by show w.heap.size + 1 ≠ w.heap.size + 1 + 1; omega) _)
    have BN : Below w.heap.size w (W.setCell ⟨w.heap.size + 1 + 1, 19, none⟩ (.int .i64 i.n)) := (B1.setCell (by show w.heap.size ≤ w.heap.size + 1 + 1; omega) _)
    have lt1 := R1.lt
    have lt2 := H1.lt
    clear EE
    go_wp2_with (first | ((with_reducible refine go_loadI (.tmp 3) (w.heap.size + 1 + 1) bi (by with_unfolding_all rfl) HN ?_)) | ((with_reducible refine go_storeI (.tmp 2) (.tmp 87) (w.heap.size + 1) bi zeroI (by with_unfolding_all rfl) (by with_unfolding_all rfl) RN ?_)))
    refine bodyPost_ret (results_cell_row rfl _ _ (w.heap.size + 1) 25 (itA bi) (0, 0) _ rfl (show Blk _ _ _ _ from RN.row _) Tryz.underlying25 rfl (by kernel_rfl)) rfl ?_
    exact ⟨rfl, below_row BN (by omega) _⟩
  · have k1 : (i.kind == 1) = false := by rw [hk]; rfl
    have k2 : (i.kind == 2) = false := by rw [hk]; rfl
    have k3 : (i.kind == 3) = false := by rw [hk]; rfl
    have k6 : (i.kind == 6) = false := by rw [hk]; rfl
    have k7 : (i.kind == 7) = false := by rw [hk]; rfl
    have k8 : (i.kind == 8) = false := by rw [hk]; rfl
    have k9 : (i.kind == 9) = false := by rw [hk]; rfl
    have k10 : (i.kind == 10) = false := by rw [hk]; rfl
    have k11 : (i.kind == 11) = false := by rw [hk]; rfl
    have hmk : motK i.kind = false := by rw [hk]; rfl
    have hin : inK i.kind 2 6 = false := by rw [hk]; rfl
    have EE : baseI i = bi := HBI.out
    have EE : headI i = bi := by rw [← HBI.out]; unfold baseI; rw [hk]; rfl
    clear hk HBI
    rw [hmk]
    rw [hin] at KIN
    clear hmk hin
    go_wp2_with fail
    refine (KIN.out _).mono ?_
    rintro e w' ⟨rfl, rfl⟩
    have HN : ItAt W (w.heap.size + 1 + 1) bi := by rw [← EE]; exact H1
    have RN : ItAt W (w.heap.size + 1) zeroI := R1
    have BN : Below w.heap.size w W := B1
    have lt1 := R1.lt
    have lt2 := H1.lt
    clear EE
    go_wp2_with (first | ((with_reducible refine go_loadI (.tmp 3) (w.heap.size + 1 + 1) bi (by with_unfolding_all rfl) HN ?_)) | ((with_reducible refine go_storeI (.tmp 2) (.tmp 87) (w.heap.size + 1) bi zeroI (by with_unfolding_all rfl) (by with_unfolding_all rfl) RN ?_)))
    refine bodyPost_ret (results_cell_row rfl _ _ (w.heap.size + 1) 25 (itA bi) (0, 0) _ rfl (show Blk _ _ _ _ from RN.row _) Tryz.underlying25 rfl (by kernel_rfl)) rfl ?_
    exact ⟨rfl, below_row BN (by omega) _⟩
  · have k1 : (i.kind == 1) = false := by rw [hk]; rfl
    have k2 : (i.kind == 2) = false := by rw [hk]; rfl
    have k3 : (i.kind == 3) = false := by rw [hk]; rfl
    have k6 : (i.kind == 6) = false := by rw [hk]; rfl
    have k7 : (i.kind == 7) = false := by rw [hk]; rfl
    have k8 : (i.kind == 8) = false := by rw [hk]; rfl
    have k9 : (i.kind == 9) = false := by rw [hk]; rfl
    have k10 : (i.kind == 10) = false := by rw [hk]; rfl
    have k11 : (i.kind == 11) = false := by rw [hk]; rfl
    have hmk : motK i.kind = false := by rw [hk]; rfl
    have hin : inK i.kind 2 6 = false := by rw [hk]; rfl
    have EE : baseI i = bi := HBI.out
    have EE : headI i = bi := by rw [← HBI.out]; unfold baseI; rw [hk]; rfl
    clear hk HBI
    rw [hmk]
    rw [hin] at KIN
    clear hmk hin
    go_wp2_with fail
    refine (KIN.out _).mono ?_
    rintro e w' ⟨rfl, rfl⟩
    have HN : ItAt W (w.heap.size + 1 + 1) bi := by rw [← EE]; exact H1
    have RN : ItAt W (w.heap.size + 1) zeroI := R1
    have BN : Below w.heap.size w W := B1
    have lt1 := R1.lt
    have lt2 := H1.lt
    clear EE
    go_wp2_with (first | ((with_reducible refine go_loadI (.tmp 3) (w.heap.size + 1 + 1) bi (by with_unfolding_all rfl) HN ?_)) | ((with_reducible refine go_storeI (.tmp 2) (.tmp 87) (w.heap.size + 1) bi zeroI (by with_unfolding_all rfl) (by with_unfolding_all rfl) RN ?_)))
    refine bodyPost_ret (results_cell_row rfl _ _ (w.heap.size + 1) 25 (itA bi) (0, 0) _ rfl (show Blk _ _ _ _ from RN.row _) Tryz.underlying25 rfl (by kernel_rfl)) rfl ?_
    exact ⟨rfl, below_row BN (by omega) _⟩
  · have k1 : (i.kind == 1) = false := by rw [hk]; rfl
    have k2 : (i.kind == 2) = false := by rw [hk]; rfl
    have k3 : (i.kind == 3) = false := by rw [hk]; rfl
    have k6 : (i.kind == 6) = false := by rw [hk]; rfl
    have k7 : (i.kind == 7) = false := by rw [hk]; rfl
    have k8 : (i.kind == 8) = false := by rw [hk]; rfl
    have k9 : (i.kind == 9) = false := by rw [hk]; rfl
    have k10 : (i.kind == 10) = false := by rw [hk]; rfl
    have k11 : (i.kind == 11) = false := by rw [hk]; rfl
    have hmk : motK i.kind = false := by rw [hk]; rfl
    have hin : inK i.kind 2 6 = false := by rw [hk]; rfl
    have EE : baseI i = bi := HBI.out
    have EE : headI i = bi := by rw [← HBI.out]; unfold baseI; rw [hk]; rfl
    clear hk HBI
    rw [hmk]
    rw [hin] at KIN
    clear hmk hin
    go_wp2_with fail
    refine (KIN.out _).mono ?_
    rintro e w' ⟨rfl, rfl⟩
    have HN : ItAt W (w.heap.size + 1 + 1) bi := by rw [← EE]; exact H1
    have RN : ItAt W (w.heap.size + 1) zeroI := R1
    have BN : Below w.heap.size w W := B1
    have lt1 := R1.lt
    have lt2 := H1.lt
    clear EE
    go_wp2_with (first | ((with_reducible refine go_loadI (.tmp 3) (w.heap.size + 1 + 1) bi (by with_unfolding_all rfl) HN ?_)) | ((with_reducible refine go_storeI (.tmp 2) (.tmp 87) (w.heap.size + 1) bi zeroI (by with_unfolding_all rfl) (by with_unfolding_all rfl) RN ?_)))
    refine bodyPost_ret (results_cell_row rfl _ _ (w.heap.size + 1) 25 (itA bi) (0, 0) _ rfl (show Blk _ _ _ _ from RN.row _) Tryz.underlying25 rfl (by kernel_rfl)) rfl ?_
    exact ⟨rfl, below_row BN (by omega) _⟩
  · have k1 : (i.kind == 1) = false := by simp; omega
    have k2 : (i.kind == 2) = false := by simp; omega
    have k3 : (i.kind == 3) = false := by simp; omega
    have k6 : (i.kind == 6) = false := by simp; omega
    have k7 : (i.kind == 7) = false := by simp; omega
    have k8 : (i.kind == 8) = false := by simp; omega
    have k9 : (i.kind == 9) = false := by simp; omega
    have k10 : (i.kind == 10) = false := by simp; omega
    have k11 : (i.kind == 11) = false := by simp; omega
    have hmk : motK i.kind = false := by unfold motK; simp; omega
    have hin : inK i.kind 2 6 = false := by unfold inK; simp; omega
    have EE : headI i = bi := by rw [← HBI.out]; unfold baseI; rw [if_neg (by omega), if_neg (by omega), if_neg (by omega), if_neg (by omega), if_neg (by omega), if_neg (by omega), if_neg (by omega), if_neg (by omega)]
    clear hk HBI
    rw [hmk]
    rw [hin] at KIN
    clear hmk hin
    go_wp2_with fail
    refine (KIN.out _).mono ?_
    rintro e w' ⟨rfl, rfl⟩
    have HN : ItAt W (w.heap.size + 1 + 1) bi := by rw [← EE]; exact H1
    have RN : ItAt W (w.heap.size + 1) zeroI := R1
    have BN : Below w.heap.size w W := B1
    have lt1 := R1.lt
    have lt2 := H1.lt
    clear EE
    go_wp2_with (first | ((with_reducible refine go_loadI (.tmp 3) (w.heap.size + 1 + 1) bi (by with_unfolding_all rfl) HN ?_)) | ((with_reducible refine go_storeI (.tmp 2) (.tmp 87) (w.heap.size + 1) bi zeroI (by with_unfolding_all rfl) (by with_unfolding_all rfl) RN ?_)))
    refine bodyPost_ret (results_cell_row rfl _ _ (w.heap.size + 1) 25 (itA bi) (0, 0) _ rfl (show Blk _ _ _ _ from RN.row _) Tryz.underlying25 rfl (by kernel_rfl)) rfl ?_
    exact ⟨rfl, below_row BN (by omega) _⟩
end Go.Proofs.YtefdjdipbnnoaaaGreatDoor

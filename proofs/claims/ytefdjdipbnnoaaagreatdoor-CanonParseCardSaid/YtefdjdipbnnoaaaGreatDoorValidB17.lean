/-
  canon.Motion, Valid: any item.
-/
import Derived.Test.YtefdjdipbnnoaaaGreatDoorValid17
namespace Go.Proofs.YtefdjdipbnnoaaaGreatDoor
open Go Go.RowKit
set_option linter.unusedVariables false
set_option linter.unusedSimpArgs false

theorem if_and {α : Sort _} {p q : Prop} [Decidable p] [Decidable q] (x y : α) : (if p then (if q then x else y) else y) = if p ∧ q then x else y := by
  by_cases hp : p <;> by_cases hq : q <;> simp [hp, hq]
theorem kb_eq {a c : Int} (h : a = c) (n : Int) : (a == n) = (c == n) := by rw [h]
def eqI (i j : It) : Bool := decide (i = j)
set_option maxRecDepth 100000 in
set_option maxHeartbeats 2000000 in
theorem neq_run (i j : It) (W : World) : (binOp .neq 25 (.agg (itA i)) (.agg (itA j))).run Tryz.prog W = .ok (.bool (!eqI i j)) W := by
  cases i
  cases j
  unfold itA
  go_simp
  simp only [eqI, It.mk.injEq]
  simp only [if_and]
  split
  · rename_i h
    rw [decide_eq_true (by simpa only [and_assoc] using h)]
    rfl
  · rename_i h
    rw [decide_eq_false (by simpa only [and_assoc] using h)]
    rfl

attribute [local go_sem] itA_0 itA_1 itA_2 itA_3 itA_4 itA_5 itA_6 itA_7 itA_8 itA_9 itA_10 itA_11 itA_12 itA_13 itA_14 itA_15 itA_16 itA_17 itA_18 itA_19 itA_20 itA_21
def motK (k : Int) : Bool := decide (1 ≤ k ∧ k ≤ 6)
theorem motionK_any (k : Int) (w : World) : Calls Tryz.prog 24 #[.int .i64 k] w fun e w' => e = .returned (.bool (motK k)) ∧ w = w' := by
  go_enter Tryz.func24, Tryz.ntmps24
  go_wp2_with fail
  all_goals
    go_ret
    exact ⟨ret_bool (by unfold motK; (rw [Bool.eq_iff_iff]; simp only [Bool.or_eq_true, Bool.and_eq_true, Bool.not_eq_true', beq_iff_eq, beq_eq_false_iff_ne, bne_iff_ne, decide_eq_true_eq, decide_eq_false_iff_not, true_iff, iff_true, false_iff, iff_false, Bool.false_eq_true, true_and, and_true, false_and, and_false, true_or, or_true, false_or, or_false]; first | done | omega)), rfl⟩
/-- The item with the fields that items other than motions have. -/
def bareI (i : It) : It := ⟨i.kind, i.block, 0, 0, 0, 0, 0, 0, 0, 0, 0, 0, 0, false, 0, false, 0, 0, 0, i.n, i.speed, i.on⟩
theorem bare_built (i : It) : Tryz.prog.built 25 [(0, .int .i64 i.kind), (1, .int .i64 i.block), (13, .int .i64 i.n), (14, .int .i64 i.speed), (15, .bool i.on)] = some (itA (bareI i)) := by with_unfolding_all kernel_rfl
def kindB (i : It) : Bool :=
  if i.kind = 8 then decide (i.on = false ∧ 3 ≤ i.n ∧ i.n ≤ 5 ∧ 0 ≤ i.speed ∧ i.speed ≤ 30000 ∧ (i.n ≠ 5 ∨ i.speed = 0))
  else if i.kind = 9 then decide (i.speed = 0 ∧ (i.n = 7 ∨ i.n = 8))
  else if i.kind = 10 then decide (i.speed = 0 ∧ 0 ≤ i.n ∧ i.n < 16)
  else if i.kind = 7 then decide (i.on = false ∧ i.speed = 0 ∧ 0 ≤ i.n ∧ i.n ≤ 60000)
  else if i.kind = 11 then decide (i.on = false ∧ i.speed = 0 ∧ 0 ≤ i.n ∧ i.n ≤ 32)
  else if i.kind = 12 ∨ i.kind = 13 ∨ i.kind = 14 then decide (i.on = false ∧ i.speed = 0 ∧ i.n = 0)
  else false
/-- canon.Valid. -/
def validI (i : It) : Bool := decide (0 ≤ i.block ∧ i.block < 2000) && (if motK i.kind then motionB i else eqI i (bareI i) && kindB i)
theorem go_neqI {P : Program} {ops : Array Oper} {rest : List Oper} {a : Act} {w : World} {Q : Exit → Act → World → Prop} {dst : Option Tmp} {ty0 : TypeId} {pos : String} {after : Array Edge} (t t' : TypeId) (x y : Operand) (xs ys : Array Value) (b : Bool) (hx : a.eval x = .agg xs) (hy : a.eval y = .agg ys)
    (hm : P.eqGuardType P.depth t = false) (hr : (binOp .neq t (.agg xs) (.agg ys)).run P w = .ok (.bool b) w) (h : wpList P ops Q rest (a.put dst (.bool b)) w) : wpList P ops Q (⟨dst, .binOp .neq t x y t', ty0, pos, after, none⟩ :: rest) a w :=
  wpList_plain rfl fun _ hK => wo_binop .neq t t' x y (.bool b) (by simp only [hx, hy, Sem.run_bind, run_eqGuard_agg _ _ _ _ _ _ _ hm, Result.andThen_ok, hr]) (hK _ _ h)
set_option maxRecDepth 100000 in
set_option maxHeartbeats 4000000 in
theorem cvalid_any (i : It) (w : World) : Calls Tryz.prog 30 #[.agg (itA i)] w fun e w' => e = .returned (.bool (validI i)) ∧ Below w.heap.size w w' := by
  have KM := fun W => motionK_any i.kind W
  have BEL := Lib.hid ((Below.refl w.heap.size w).alloc (Nat.le_refl _) (.cells (itA i) 25))
  obtain ⟨sv, hsv⟩ : ∃ b, validI i = b := ⟨_, rfl⟩
  have HSV := Lib.hid (show sv = (decide (0 ≤ i.block ∧ i.block < 2000) && (if motK i.kind then motionB i else eqI i (bareI i) && kindB i)) from hsv.symm)
  rw [hsv]
  clear hsv
  by_cases hb : 0 ≤ i.block ∧ i.block < 2000
  rotate_left
  · have EE : sv = false := by rw [HSV.out, decide_eq_false hb]; rfl
    subst EE
    rcases (show i.block < 0 ∨ (0 ≤ i.block ∧ 2000 ≤ i.block) by omega) with h1 | ⟨h1, h2⟩
    all_goals
      go_enter Tryz.func30, Tryz.ntmps30
      go_wp2_with fail
      go_ret
      exact ⟨rfl, BEL.out⟩
  have HSV2 := Lib.hid (show sv = (if motK i.kind then motionB i else eqI i (bareI i) && kindB i) by rw [HSV.out, decide_eq_true hb, Bool.true_and])
  obtain ⟨hb1, hb2⟩ := hb
  clear HSV
  obtain ⟨mk, hmk⟩ : ∃ b, motK i.kind = b := ⟨_, rfl⟩
  rw [hmk] at KM HSV2
  have KM := Lib.hid KM
  have I0 : (w.alloc (.cells (itA i) 25)).heap[w.heap.size]? = some (.cells (itA i) 25 (0, 0)) := Blk.new w _ _
  cases mk
  · have EX := Lib.hid (HSV2.out.trans (if_neg (by simp)))
    clear HSV2
    obtain ⟨eb, heb⟩ : ∃ b, eqI i (bareI i) = b := ⟨_, rfl⟩
    have NR := fun W => neq_run i (bareI i) W
    rw [heb] at NR EX
    have NR := Lib.hid NR
    clear heb
    have hmk2 : ¬ (1 ≤ i.kind ∧ i.kind ≤ 6) := of_decide_eq_false hmk
    clear hmk
    go_enter Tryz.func30, Tryz.ntmps30
    go_wp2_with fail
    refine (KM.out _).mono ?_
    rintro e w' ⟨rfl, rfl⟩
    have c19 := Blk.cell' I0 19 (itA_19 i)
    have c20 := Blk.cell' I0 20 (itA_20 i)
    go_wp2_with fail
    go_region_held3 (fun w' => w'.cell? ⟨w.heap.size, 19, none⟩ = some (.int .i64 i.n) ∧ w'.cell? ⟨w.heap.size, 20, none⟩ = some (.int .i64 i.speed)) (go_keep) (fail)
    have I1 : (w.alloc (.cells (itA i) 25)).drew.heap[w.heap.size]? = some (.cells (itA i) 25 (0, 0)) := I0
    have BEL2 := Lib.hid BEL.out.drew
    cases eb
    · have EE : sv = false := by rw [EX.out]; rfl
      subst EE
      have c0 := Blk.cell' I1 0 (itA_0 i)
      have c1 := Blk.cell' I1 1 (itA_1 i)
      have c21 := Blk.cell' I1 21 (itA_21 i)
      go_wp2_with (first
        | ((with_reducible refine go_load_row 25 (.tmp 1) w.heap.size 25 (itA i) _ rfl I1 Tryz.underlying25 rfl (by kernel_rfl) ?_))
        | ((with_reducible refine go_built 25 _ (itA (bareI i)) (by with_unfolding_all kernel_rfl) ?_))
        | ((with_reducible refine go_neqI 25 _ (.tmp 22) (.tmp 31) (itA i) (itA (bareI i)) true rfl rfl (by kernel_rfl) (NR.out _) ?_)))
      go_ret
      exact ⟨rfl, BEL2.out⟩
    · have EX2 : Hid (sv = kindB i) := Lib.hid (by rw [EX.out, Bool.true_and])
      clear EX
      unfold kindB at EX2
      have c1 := Blk.cell' I1 1 (itA_1 i)
      have c21 := Blk.cell' I1 21 (itA_21 i)
      have hk : i.kind = 7 ∨ i.kind = 8 ∨ i.kind = 9 ∨ i.kind = 10 ∨ i.kind = 11 ∨ i.kind = 12 ∨ i.kind = 13 ∨ i.kind = 14 ∨ (i.kind < 1 ∨ 14 < i.kind) := by omega
      rcases hk with hk | hk | hk | hk | hk | hk | hk | hk | hk
      rotate_right 1
      · have EE : sv = false := by rw [EX2.out]; rw [if_neg (by omega), if_neg (by omega), if_neg (by omega), if_neg (by omega), if_neg (by omega), if_neg (by omega)]
        subst EE
        have c0 := Blk.cell' I1 0 (itA_0 i)
        have k7 : (i.kind == 7) = false := by simp; omega
        have k8 : (i.kind == 8) = false := by simp; omega
        have k9 : (i.kind == 9) = false := by simp; omega
        have k10 : (i.kind == 10) = false := by simp; omega
        have k11 : (i.kind == 11) = false := by simp; omega
        have k12 : (i.kind == 12) = false := by simp; omega
        have k13 : (i.kind == 13) = false := by simp; omega
        have k14 : (i.kind == 14) = false := by simp; omega
        clear hk hmk2
        go_wp2_with (first
          | ((with_reducible refine go_load_row 25 (.tmp 1) w.heap.size 25 (itA i) _ rfl I1 Tryz.underlying25 rfl (by kernel_rfl) ?_))
          | ((with_reducible refine go_built 25 _ (itA (bareI i)) (by with_unfolding_all kernel_rfl) ?_))
          | ((with_reducible refine go_neqI 25 _ (.tmp 22) (.tmp 31) (itA i) (itA (bareI i)) false rfl rfl (by kernel_rfl) (NR.out _) ?_)))
        go_ret
        exact ⟨rfl, BEL2.out⟩
      · have c0 := Blk.cell' I1 0 (itA_0 i)
        simp only [hk] at EX2
        simp (config := { decide := true }) only [if_true, if_false] at EX2
        have k7 : (i.kind == 7) = true := by rw [hk]; rfl
        have k8 : (i.kind == 8) = false := by rw [hk]; rfl
        have k9 : (i.kind == 9) = false := by rw [hk]; rfl
        have k10 : (i.kind == 10) = false := by rw [hk]; rfl
        have k11 : (i.kind == 11) = false := by rw [hk]; rfl
        have k12 : (i.kind == 12) = false := by rw [hk]; rfl
        have k13 : (i.kind == 13) = false := by rw [hk]; rfl
        have k14 : (i.kind == 14) = false := by rw [hk]; rfl
        clear hmk2 hk
        go_wp2_with (first
          | ((with_reducible refine go_load_row 25 (.tmp 1) w.heap.size 25 (itA i) _ rfl I1 Tryz.underlying25 rfl (by kernel_rfl) ?_))
          | ((with_reducible refine go_built 25 _ (itA (bareI i)) (by with_unfolding_all kernel_rfl) ?_))
          | ((with_reducible refine go_neqI 25 _ (.tmp 22) (.tmp 31) (itA i) (itA (bareI i)) false rfl rfl (by kernel_rfl) (NR.out _) ?_)))
        all_goals
          go_ret
          exact ⟨ret_bool (by rw [EX2.out]; clear EX2 NR KM BEL BEL2; cases hon : i.on <;> simp only [hon] at * <;> first | (rw [Bool.eq_iff_iff]; first | (simp; done) | (simp; omega) | (rw [Bool.eq_iff_iff]; simp only [Bool.or_eq_true, Bool.and_eq_true, Bool.not_eq_true', beq_iff_eq, beq_eq_false_iff_ne, bne_iff_ne, decide_eq_true_eq, decide_eq_false_iff_not, true_iff, iff_true, false_iff, iff_false, Bool.false_eq_true, true_and, and_true, false_and, and_false, true_or, or_true, false_or, or_false]; first | done | omega)) | contradiction | exact absurd trivial (by assumption)), BEL2.out⟩
      · have c0 := Blk.cell' I1 0 (itA_0 i)
        simp only [hk] at EX2
        simp (config := { decide := true }) only [if_true, if_false] at EX2
        have k7 : (i.kind == 7) = false := by rw [hk]; rfl
        have k8 : (i.kind == 8) = true := by rw [hk]; rfl
        have k9 : (i.kind == 9) = false := by rw [hk]; rfl
        have k10 : (i.kind == 10) = false := by rw [hk]; rfl
        have k11 : (i.kind == 11) = false := by rw [hk]; rfl
        have k12 : (i.kind == 12) = false := by rw [hk]; rfl
        have k13 : (i.kind == 13) = false := by rw [hk]; rfl
        have k14 : (i.kind == 14) = false := by rw [hk]; rfl
        clear hmk2 hk
        go_wp2_with (first
          | ((with_reducible refine go_load_row 25 (.tmp 1) w.heap.size 25 (itA i) _ rfl I1 Tryz.underlying25 rfl (by kernel_rfl) ?_))
          | ((with_reducible refine go_built 25 _ (itA (bareI i)) (by with_unfolding_all kernel_rfl) ?_))
          | ((with_reducible refine go_neqI 25 _ (.tmp 22) (.tmp 31) (itA i) (itA (bareI i)) false rfl rfl (by kernel_rfl) (NR.out _) ?_)))
        all_goals
          go_ret
          exact ⟨ret_bool (by rw [EX2.out]; clear EX2 NR KM BEL BEL2; cases hon : i.on <;> simp only [hon] at * <;> first | (rw [Bool.eq_iff_iff]; first | (simp; done) | (simp; omega) | (rw [Bool.eq_iff_iff]; simp only [Bool.or_eq_true, Bool.and_eq_true, Bool.not_eq_true', beq_iff_eq, beq_eq_false_iff_ne, bne_iff_ne, decide_eq_true_eq, decide_eq_false_iff_not, true_iff, iff_true, false_iff, iff_false, Bool.false_eq_true, true_and, and_true, false_and, and_false, true_or, or_true, false_or, or_false]; first | done | omega)) | contradiction | exact absurd trivial (by assumption)), BEL2.out⟩
      · have c0 := Blk.cell' I1 0 (itA_0 i)
        simp only [hk] at EX2
        simp (config := { decide := true }) only [if_true, if_false] at EX2
        have k7 : (i.kind == 7) = false := by rw [hk]; rfl
        have k8 : (i.kind == 8) = false := by rw [hk]; rfl
        have k9 : (i.kind == 9) = true := by rw [hk]; rfl
        have k10 : (i.kind == 10) = false := by rw [hk]; rfl
        have k11 : (i.kind == 11) = false := by rw [hk]; rfl
        have k12 : (i.kind == 12) = false := by rw [hk]; rfl
        have k13 : (i.kind == 13) = false := by rw [hk]; rfl
        have k14 : (i.kind == 14) = false := by rw [hk]; rfl
        clear hmk2 hk
        go_wp2_with (first
          | ((with_reducible refine go_load_row 25 (.tmp 1) w.heap.size 25 (itA i) _ rfl I1 Tryz.underlying25 rfl (by kernel_rfl) ?_))
          | ((with_reducible refine go_built 25 _ (itA (bareI i)) (by with_unfolding_all kernel_rfl) ?_))
          | ((with_reducible refine go_neqI 25 _ (.tmp 22) (.tmp 31) (itA i) (itA (bareI i)) false rfl rfl (by kernel_rfl) (NR.out _) ?_)))
        all_goals
          go_ret
          exact ⟨ret_bool (by rw [EX2.out]; clear EX2 NR KM BEL BEL2; cases hon : i.on <;> simp only [hon] at * <;> first | (rw [Bool.eq_iff_iff]; first | (simp; done) | (simp; omega) | (rw [Bool.eq_iff_iff]; simp only [Bool.or_eq_true, Bool.and_eq_true, Bool.not_eq_true', beq_iff_eq, beq_eq_false_iff_ne, bne_iff_ne, decide_eq_true_eq, decide_eq_false_iff_not, true_iff, iff_true, false_iff, iff_false, Bool.false_eq_true, true_and, and_true, false_and, and_false, true_or, or_true, false_or, or_false]; first | done | omega)) | contradiction | exact absurd trivial (by assumption)), BEL2.out⟩
      · have c0 := Blk.cell' I1 0 (itA_0 i)
        simp only [hk] at EX2
        simp (config := { decide := true }) only [if_true, if_false] at EX2
        have k7 : (i.kind == 7) = false := by rw [hk]; rfl
        have k8 : (i.kind == 8) = false := by rw [hk]; rfl
        have k9 : (i.kind == 9) = false := by rw [hk]; rfl
        have k10 : (i.kind == 10) = true := by rw [hk]; rfl
        have k11 : (i.kind == 11) = false := by rw [hk]; rfl
        have k12 : (i.kind == 12) = false := by rw [hk]; rfl
        have k13 : (i.kind == 13) = false := by rw [hk]; rfl
        have k14 : (i.kind == 14) = false := by rw [hk]; rfl
        clear hmk2 hk
        go_wp2_with (first
          | ((with_reducible refine go_load_row 25 (.tmp 1) w.heap.size 25 (itA i) _ rfl I1 Tryz.underlying25 rfl (by kernel_rfl) ?_))
          | ((with_reducible refine go_built 25 _ (itA (bareI i)) (by with_unfolding_all kernel_rfl) ?_))
          | ((with_reducible refine go_neqI 25 _ (.tmp 22) (.tmp 31) (itA i) (itA (bareI i)) false rfl rfl (by kernel_rfl) (NR.out _) ?_)))
        all_goals
          go_ret
          exact ⟨ret_bool (by rw [EX2.out]; clear EX2 NR KM BEL BEL2; cases hon : i.on <;> simp only [hon] at * <;> first | (rw [Bool.eq_iff_iff]; first | (simp; done) | (simp; omega) | (rw [Bool.eq_iff_iff]; simp only [Bool.or_eq_true, Bool.and_eq_true, Bool.not_eq_true', beq_iff_eq, beq_eq_false_iff_ne, bne_iff_ne, decide_eq_true_eq, decide_eq_false_iff_not, true_iff, iff_true, false_iff, iff_false, Bool.false_eq_true, true_and, and_true, false_and, and_false, true_or, or_true, false_or, or_false]; first | done | omega)) | contradiction | exact absurd trivial (by assumption)), BEL2.out⟩
      · have c0 := Blk.cell' I1 0 (itA_0 i)
        simp only [hk] at EX2
        simp (config := { decide := true }) only [if_true, if_false] at EX2
        have k7 : (i.kind == 7) = false := by rw [hk]; rfl
        have k8 : (i.kind == 8) = false := by rw [hk]; rfl
        have k9 : (i.kind == 9) = false := by rw [hk]; rfl
        have k10 : (i.kind == 10) = false := by rw [hk]; rfl
        have k11 : (i.kind == 11) = true := by rw [hk]; rfl
        have k12 : (i.kind == 12) = false := by rw [hk]; rfl
        have k13 : (i.kind == 13) = false := by rw [hk]; rfl
        have k14 : (i.kind == 14) = false := by rw [hk]; rfl
        clear hmk2 hk
        go_wp2_with (first
          | ((with_reducible refine go_load_row 25 (.tmp 1) w.heap.size 25 (itA i) _ rfl I1 Tryz.underlying25 rfl (by kernel_rfl) ?_))
          | ((with_reducible refine go_built 25 _ (itA (bareI i)) (by with_unfolding_all kernel_rfl) ?_))
          | ((with_reducible refine go_neqI 25 _ (.tmp 22) (.tmp 31) (itA i) (itA (bareI i)) false rfl rfl (by kernel_rfl) (NR.out _) ?_)))
        all_goals
          go_ret
          exact ⟨ret_bool (by rw [EX2.out]; clear EX2 NR KM BEL BEL2; cases hon : i.on <;> simp only [hon] at * <;> first | (rw [Bool.eq_iff_iff]; first | (simp; done) | (simp; omega) | (rw [Bool.eq_iff_iff]; simp only [Bool.or_eq_true, Bool.and_eq_true, Bool.not_eq_true', beq_iff_eq, beq_eq_false_iff_ne, bne_iff_ne, decide_eq_true_eq, decide_eq_false_iff_not, true_iff, iff_true, false_iff, iff_false, Bool.false_eq_true, true_and, and_true, false_and, and_false, true_or, or_true, false_or, or_false]; first | done | omega)) | contradiction | exact absurd trivial (by assumption)), BEL2.out⟩
      · have c0 := Blk.cell' I1 0 (itA_0 i)
        simp only [hk] at EX2
        simp (config := { decide := true }) only [if_true, if_false] at EX2
        have k7 : (i.kind == 7) = false := by rw [hk]; rfl
        have k8 : (i.kind == 8) = false := by rw [hk]; rfl
        have k9 : (i.kind == 9) = false := by rw [hk]; rfl
        have k10 : (i.kind == 10) = false := by rw [hk]; rfl
        have k11 : (i.kind == 11) = false := by rw [hk]; rfl
        have k12 : (i.kind == 12) = true := by rw [hk]; rfl
        have k13 : (i.kind == 13) = false := by rw [hk]; rfl
        have k14 : (i.kind == 14) = false := by rw [hk]; rfl
        clear hmk2 hk
        go_wp2_with (first
          | ((with_reducible refine go_load_row 25 (.tmp 1) w.heap.size 25 (itA i) _ rfl I1 Tryz.underlying25 rfl (by kernel_rfl) ?_))
          | ((with_reducible refine go_built 25 _ (itA (bareI i)) (by with_unfolding_all kernel_rfl) ?_))
          | ((with_reducible refine go_neqI 25 _ (.tmp 22) (.tmp 31) (itA i) (itA (bareI i)) false rfl rfl (by kernel_rfl) (NR.out _) ?_)))
        all_goals
          go_ret
          exact ⟨ret_bool (by rw [EX2.out]; clear EX2 NR KM BEL BEL2; cases hon : i.on <;> simp only [hon] at * <;> first | (rw [Bool.eq_iff_iff]; first | (simp; done) | (simp; omega) | (rw [Bool.eq_iff_iff]; simp only [Bool.or_eq_true, Bool.and_eq_true, Bool.not_eq_true', beq_iff_eq, beq_eq_false_iff_ne, bne_iff_ne, decide_eq_true_eq, decide_eq_false_iff_not, true_iff, iff_true, false_iff, iff_false, Bool.false_eq_true, true_and, and_true, false_and, and_false, true_or, or_true, false_or, or_false]; first | done | omega)) | contradiction | exact absurd trivial (by assumption)), BEL2.out⟩
      · have c0 := Blk.cell' I1 0 (itA_0 i)
        simp only [hk] at EX2
        simp (config := { decide := true }) only [if_true, if_false] at EX2
        have k7 : (i.kind == 7) = false := by rw [hk]; rfl
        have k8 : (i.kind == 8) = false := by rw [hk]; rfl
        have k9 : (i.kind == 9) = false := by rw [hk]; rfl
        have k10 : (i.kind == 10) = false := by rw [hk]; rfl
        have k11 : (i.kind == 11) = false := by rw [hk]; rfl
        have k12 : (i.kind == 12) = false := by rw [hk]; rfl
        have k13 : (i.kind == 13) = true := by rw [hk]; rfl
        have k14 : (i.kind == 14) = false := by rw [hk]; rfl
        clear hmk2 hk
        go_wp2_with (first
          | ((with_reducible refine go_load_row 25 (.tmp 1) w.heap.size 25 (itA i) _ rfl I1 Tryz.underlying25 rfl (by kernel_rfl) ?_))
          | ((with_reducible refine go_built 25 _ (itA (bareI i)) (by with_unfolding_all kernel_rfl) ?_))
          | ((with_reducible refine go_neqI 25 _ (.tmp 22) (.tmp 31) (itA i) (itA (bareI i)) false rfl rfl (by kernel_rfl) (NR.out _) ?_)))
        all_goals
          go_ret
          exact ⟨ret_bool (by rw [EX2.out]; clear EX2 NR KM BEL BEL2; cases hon : i.on <;> simp only [hon] at * <;> first | (rw [Bool.eq_iff_iff]; first | (simp; done) | (simp; omega) | (rw [Bool.eq_iff_iff]; simp only [Bool.or_eq_true, Bool.and_eq_true, Bool.not_eq_true', beq_iff_eq, beq_eq_false_iff_ne, bne_iff_ne, decide_eq_true_eq, decide_eq_false_iff_not, true_iff, iff_true, false_iff, iff_false, Bool.false_eq_true, true_and, and_true, false_and, and_false, true_or, or_true, false_or, or_false]; first | done | omega)) | contradiction | exact absurd trivial (by assumption)), BEL2.out⟩
      · have c0 := Blk.cell' I1 0 (itA_0 i)
        simp only [hk] at EX2
        simp (config := { decide := true }) only [if_true, if_false] at EX2
        have k7 : (i.kind == 7) = false := by rw [hk]; rfl
        have k8 : (i.kind == 8) = false := by rw [hk]; rfl
        have k9 : (i.kind == 9) = false := by rw [hk]; rfl
        have k10 : (i.kind == 10) = false := by rw [hk]; rfl
        have k11 : (i.kind == 11) = false := by rw [hk]; rfl
        have k12 : (i.kind == 12) = false := by rw [hk]; rfl
        have k13 : (i.kind == 13) = false := by rw [hk]; rfl
        have k14 : (i.kind == 14) = true := by rw [hk]; rfl
        clear hmk2 hk
        go_wp2_with (first
          | ((with_reducible refine go_load_row 25 (.tmp 1) w.heap.size 25 (itA i) _ rfl I1 Tryz.underlying25 rfl (by kernel_rfl) ?_))
          | ((with_reducible refine go_built 25 _ (itA (bareI i)) (by with_unfolding_all kernel_rfl) ?_))
          | ((with_reducible refine go_neqI 25 _ (.tmp 22) (.tmp 31) (itA i) (itA (bareI i)) false rfl rfl (by kernel_rfl) (NR.out _) ?_)))
        all_goals
          go_ret
          exact ⟨ret_bool (by rw [EX2.out]; clear EX2 NR KM BEL BEL2; cases hon : i.on <;> simp only [hon] at * <;> first | (rw [Bool.eq_iff_iff]; first | (simp; done) | (simp; omega) | (rw [Bool.eq_iff_iff]; simp only [Bool.or_eq_true, Bool.and_eq_true, Bool.not_eq_true', beq_iff_eq, beq_eq_false_iff_ne, bne_iff_ne, decide_eq_true_eq, decide_eq_false_iff_not, true_iff, iff_true, false_iff, iff_false, Bool.false_eq_true, true_and, and_true, false_and, and_false, true_or, or_true, false_or, or_false]; first | done | omega)) | contradiction | exact absurd trivial (by assumption)), BEL2.out⟩
  · have EX := Lib.hid (HSV2.out.trans (if_pos rfl))
    clear HSV2
    have KV := Lib.hid (fun W => motion_any i (of_decide_eq_true hmk) W)
    clear hmk
    rw [← EX.out] at KV
    clear EX
    go_enter Tryz.func30, Tryz.ntmps30
    go_wp2_with fail
    refine (KM.out _).mono ?_
    rintro e w' ⟨rfl, rfl⟩
    go_wp2_with (first
      | ((with_reducible refine go_load_row 25 (.tmp 1) w.heap.size 25 (itA i) _ rfl I0 Tryz.underlying25 rfl (by kernel_rfl) ?_)))
    refine (KV.out _).mono ?_
    rintro e w2 ⟨rfl, b2⟩
    go_wp2_with fail
    go_ret
    exact ⟨rfl, BEL.out.trans (b2.mono (by simp))⟩
end Go.Proofs.YtefdjdipbnnoaaaGreatDoor

/-
  cnclaw17.awake returns true. No condition beyond what the variables hold.
-/
import Derived.Test.YtefdjdipbnnoaaaGreatDoorFormat17
import Derived.Test.YtefdjdipbnnoaaaGreatDoorStageF17
namespace Go.Proofs.YtefdjdipbnnoaaaGreatDoor
open Go Go.RowKit
set_option linter.unusedVariables false
set_option linter.unusedSimpArgs false

def lnI (k : Int) : It := { zeroI with kind := 2, tx := k, feed := 1 }
def spI : It := { zeroI with kind := 12, block := 2 }
theorem awake_chk : checkL [lnI 1, lnI 2] = (1, 13) := by with_unfolding_all kernel_rfl
theorem itoa0 : Lib.itoa 0 = [48] := by unfold Lib.itoa; rw [if_neg (by decide)]; exact Lib.decDigits_one (by decide)
theorem itoa2 : Lib.itoa 2 = [50] := by unfold Lib.itoa; rw [if_neg (by decide)]; exact Lib.decDigits_one (by decide)
def stopB : ByteArray := ⟨#[115, 116, 111, 112, 32, 50, 32, 48, 32, 48, 32, 48, 32, 48, 32, 48, 32, 48, 32, 48, 32, 48, 32, 48, 32, 48, 32, 48, 32, 48, 32, 48, 32, 48, 32, 48, 32, 48, 32, 48, 32, 48, 32, 48, 32, 48, 10]⟩
theorem awake_fmt : mkB (formatI [spI]) = stopB := by
  have hv : validI spI = true := by with_unfolding_all kernel_rfl
  unfold formatI
  rw [List.all_cons, hv]
  simp only [List.all_nil, Bool.and_true, if_true]
  unfold fmtIs fmtI numsI preN spI zeroI b2i
  simp only [List.flatMap_cons, List.flatMap_nil, itoa0, itoa2, Bool.false_eq_true, if_false]
  rfl
theorem its_blk {W : World} {b : Nat} {l : List It} (h : Blk W b 25 (itsC l).toArray) : ItsAt W (some ⟨b, 0, none⟩) l := fun i t hi => ⟨b, 0, rfl, h.lt, fun j v hv => by
  have hj : j < 22 := (List.getElem?_eq_some_iff.1 hv).1
  rw [Nat.zero_add, h.cell, List.getElem?_toArray, itsC_at l i j t hi hj]
  exact hv⟩
theorem it2_fill : Instr.fill (fun k => some (k * 22, 22)) ((Array.range (2 * 22)).map ((Value.agg (itA zeroI)).cells[· % (Value.agg (itA zeroI)).cells.size]!)) [(0, .agg (itA (lnI 1))), (1, .agg (itA (lnI 2)))] = some (itsC [lnI 1, lnI 2]).toArray := by with_unfolding_all kernel_rfl
set_option maxRecDepth 100000 in
theorem go_it2 {ops : Array Oper} {rest : List Oper} {a : Act} {w : World} {Q : Exit → Act → World → Prop} {dst : Option Tmp} {ty0 : TypeId} {pos : String} {after : Array Edge} (x y : Operand) (hx : a.eval x = .agg (itA (lnI 1))) (hy : a.eval y = .agg (itA (lnI 2)))
    (h : wpList Tryz.prog ops Q rest (a.put dst (.slice (some ⟨w.heap.size, 0, none⟩) 2 2)) (w.alloc (.cells (itsC [lnI 1, lnI 2]).toArray 25))) : wpList Tryz.prog ops Q (⟨dst, .buildSlice 29 2 #[(0, x), (1, y)], ty0, pos, after, none⟩ :: rest) a w := by
  obtain ⟨i0, hi, hz0, hz1, hz2⟩ := info_parts infoIt
  refine go_buildSlice 29 25 2 _ (itsC [lnI 1, lnI 2]).toArray i0 _ Tryz.underlying29 hi hz0 (by rw [hz1]; decide) (by rw [hz1]; decide) ?_ h
  rw [hz1]
  simp only [List.map_toArray, List.map_cons, List.map_nil, hx, hy]
  exact it2_fill
set_option maxRecDepth 100000 in
theorem gd_it1 {ops : Array Oper} {rest : List Oper} {a : Act} {w : World} {Q : Exit → Act → World → Prop} {dst : Option Tmp} {ty0 : TypeId} {pos : String} {after : Array Edge} {gd : Nat × Bool} (x : Operand) (i : It)
    (hw : Region.wanted ⟨dst, .buildSlice 29 1 #[(0, x)], ty0, pos, after, some gd⟩ (yielded ops a.tmps) = true) (hx : a.eval x = .agg (itA i))
    (h : wpList Tryz.prog ops Q rest (a.put dst (.slice (some ⟨w.heap.size, 0, none⟩) 1 1)) (w.alloc (.cells (itA i) 25))) : wpList Tryz.prog ops Q (⟨dst, .buildSlice 29 1 #[(0, x)], ty0, pos, after, some gd⟩ :: rest) a w :=
  gd_of_wp hw fun K hK => by
    obtain ⟨i0, hi, hz0, hz1, hz2⟩ := info_parts infoIt
    refine wo_buildSlice 29 25 1 _ (itA i) i0 _ Tryz.underlying29 hi hz0 (by rw [hz1]; decide) (by rw [hz1]; decide) ?_ (hK _ _ h)
    rw [hz1]
    simp only [List.map_toArray, List.map_cons, List.map_nil, hx]
    exact it_fill _
set_option maxRecDepth 100000 in
set_option maxHeartbeats 2000000 in
theorem awake_true (w : World) (hE : Env w) : Calls Tryz.prog 7 #[] w fun e w' => e = .returned (.bool true) ∧ Below w.heap.size w w' := by
  have hlow := hE.low
  have b0 := (Below.refl w.heap.size w).alloc (Nat.le_refl _) (.cells (itsC [lnI 1, lnI 2]).toArray 25)
  have KC := check_any (some ⟨w.heap.size, 0, none⟩) 2 [lnI 1, lnI 2] (w.alloc (.cells (itsC [lnI 1, lnI 2]).toArray 25)) (its_blk (Blk.new w _ _)) (by decide)
  rw [awake_chk] at KC
  have KC := Lib.hid KC
  have HE := Lib.hid (hE.below b0 hlow)
  have B0 := Lib.hid b0
  have KM1 := Lib.hid (fun W => (show Calls Tryz.prog 24 #[.int .i64 6] W fun e w' => e = .returned (.bool true) ∧ W = w' from motionK_any 6 W))
  have KM2 := Lib.hid (fun W => (show Calls Tryz.prog 24 #[.int .i64 7] W fun e w' => e = .returned (.bool false) ∧ W = w' from motionK_any 7 W))
  clear b0 hE
  go_enter Tryz.func7, Tryz.ntmps7
  go_wp2_with (first
    | ((with_reducible refine go_built 25 #[(0, .const (.int .i64 2)), (3, .tmp 4), (8, .const (.int .i64 1))] (itA (lnI 1)) (by with_unfolding_all kernel_rfl) ?_))
    | ((with_reducible refine go_built 25 #[(0, .const (.int .i64 2)), (3, .tmp 6), (8, .const (.int .i64 1))] (itA (lnI 2)) (by with_unfolding_all kernel_rfl) ?_))
    | ((with_reducible refine go_it2 (.tmp 5) (.tmp 7) (by with_unfolding_all rfl) (by with_unfolding_all rfl) ?_)))
  refine KC.out.mono ?_
  rintro e w1 ⟨rfl, b1⟩
  have hs1 := b1.size
  have hs0 := B0.out.size
  have BEL1 := Lib.hid (B0.out.trans (b1.mono hs0))
  have HE1 := Lib.hid (HE.out.below b1 (by omega))
  have b2 := (Below.refl w1.heap.size w1).alloc (Nat.le_refl _) (.cells (itsC [spI]).toArray 25)
  have KF := format_any (some ⟨w1.heap.size, 0, none⟩) 1 [spI] (w1.alloc (.cells (itsC [spI]).toArray 25)) (its_blk (Blk.new w1 _ _)) (by decide) (HE1.out.below b2 (by omega))
  rw [awake_fmt] at KF
  have KF := Lib.hid KF
  have B2 := Lib.hid b2
  clear b1 b2 KC HE
  go_wp2_with (first
    | ((with_reducible refine gd_built 25 _ (itA spI) (by with_unfolding_all rfl) (by with_unfolding_all kernel_rfl) ?_))
    | ((with_reducible refine gd_it1 (.tmp 21) spI (by with_unfolding_all rfl) (by with_unfolding_all rfl) ?_)))
  refine KF.out.mono ?_
  rintro e w3 ⟨rfl, b3⟩
  have BEL3 := Lib.hid ((BEL1.out.trans (B2.out.mono (by omega))).trans (b3.mono (by simp; omega)))
  clear b3 KF B2
  unfold stopB
  go_wp2_with fail
  refine (KM1.out _).mono ?_
  rintro e w' ⟨rfl, rfl⟩
  go_wp2_with fail
  refine (KM2.out _).mono ?_
  rintro e w' ⟨rfl, rfl⟩
  go_wp2_with fail
  go_ret
  exact ⟨rfl, BEL3.out⟩
end Go.Proofs.YtefdjdipbnnoaaaGreatDoor

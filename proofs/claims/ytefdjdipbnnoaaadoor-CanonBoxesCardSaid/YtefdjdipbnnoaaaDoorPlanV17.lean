/-
  cncref17.Valid and canon.Valid say the same of every item. Plain.
-/
import Derived.Test.YtefdjdipbnnoaaaDoorRVal17
namespace Go.Proofs.YtefdjdipbnnoaaaDoor
open Go Go.RowKit
set_option linter.unusedVariables false
set_option linter.unusedSimpArgs false

theorem with0 : withB 0 0 0 = true := by decide
set_option maxHeartbeats 4000000 in
theorem val_1 (i : It) (hk : i.kind = 1) : rvalI i = validI i := by
  obtain ⟨kind, block, fx, fy, fz, tx, ty, tz, plane, cx, cy, cz, dir, full, feed, perRev, side, radius, blend, n, speed, on⟩ := i
  simp only at hk
  subst hk
  unfold rvalI r1B r3B r5B numB validI motionB sidedB endB kindB bareI baseI feedI sideI wayI headI zeroI eqI motK inK zeroC
  simp only [It.mk.injEq]
  generalize withB fx fy fz = p
  generalize withB tx ty tz = q
  generalize flOk plane = r
  by_cases hs : side = 0 <;> cases p <;> cases q <;> cases r <;> cases full <;> cases perRev <;> cases on <;> rw [Bool.eq_iff_iff] <;> simp [hs] <;> omega
set_option maxHeartbeats 4000000 in
theorem val_2 (i : It) (hk : i.kind = 2) : rvalI i = validI i := by
  obtain ⟨kind, block, fx, fy, fz, tx, ty, tz, plane, cx, cy, cz, dir, full, feed, perRev, side, radius, blend, n, speed, on⟩ := i
  simp only at hk
  subst hk
  unfold rvalI r1B r3B r5B numB validI motionB sidedB endB kindB bareI baseI feedI sideI wayI headI zeroI eqI motK inK zeroC
  simp only [It.mk.injEq]
  generalize withB fx fy fz = p
  generalize withB tx ty tz = q
  generalize flOk plane = r
  by_cases hs : side = 0 <;> cases p <;> cases q <;> cases r <;> cases full <;> cases perRev <;> cases on <;> rw [Bool.eq_iff_iff] <;> simp [hs] <;> omega
set_option maxHeartbeats 4000000 in
theorem val_3 (i : It) (hk : i.kind = 3) : rvalI i = validI i := by
  obtain ⟨kind, block, fx, fy, fz, tx, ty, tz, plane, cx, cy, cz, dir, full, feed, perRev, side, radius, blend, n, speed, on⟩ := i
  simp only at hk
  subst hk
  unfold rvalI r1B r3B r5B numB validI motionB sidedB endB kindB bareI baseI feedI sideI wayI headI zeroI eqI motK inK zeroC
  simp only [It.mk.injEq]
  generalize withB fx fy fz = p
  generalize withB tx ty tz = q
  generalize flOk plane = r
  generalize arcE _ = ae
  by_cases hs : side = 0 <;> cases p <;> cases q <;> cases r <;> cases full <;> cases perRev <;> cases on <;> rw [Bool.eq_iff_iff] <;> simp [hs] <;> omega
set_option maxHeartbeats 4000000 in
theorem val_4 (i : It) (hk : i.kind = 4) : rvalI i = validI i := by
  obtain ⟨kind, block, fx, fy, fz, tx, ty, tz, plane, cx, cy, cz, dir, full, feed, perRev, side, radius, blend, n, speed, on⟩ := i
  simp only at hk
  subst hk
  unfold rvalI r1B r3B r5B numB validI motionB sidedB endB kindB bareI baseI feedI sideI wayI headI zeroI eqI motK inK zeroC
  simp only [It.mk.injEq]
  generalize withB fx fy fz = p
  generalize withB tx ty tz = q
  generalize flOk plane = r
  by_cases hs : side = 0 <;> cases p <;> cases q <;> cases r <;> cases full <;> cases perRev <;> cases on <;> rw [Bool.eq_iff_iff] <;> simp [hs] <;> omega
set_option maxHeartbeats 4000000 in
theorem val_5 (i : It) (hk : i.kind = 5) : rvalI i = validI i := by
  obtain ⟨kind, block, fx, fy, fz, tx, ty, tz, plane, cx, cy, cz, dir, full, feed, perRev, side, radius, blend, n, speed, on⟩ := i
  simp only at hk
  subst hk
  unfold rvalI r1B r3B r5B numB validI motionB sidedB endB kindB bareI baseI feedI sideI wayI headI zeroI eqI motK inK zeroC
  simp only [It.mk.injEq]
  generalize withB fx fy fz = p
  generalize withB tx ty tz = q
  generalize flOk plane = r
  by_cases hs : side = 0 <;> cases p <;> cases q <;> cases r <;> cases full <;> cases perRev <;> cases on <;> rw [Bool.eq_iff_iff] <;> simp [hs] <;> omega
set_option maxHeartbeats 4000000 in
theorem val_6 (i : It) (hk : i.kind = 6) : rvalI i = validI i := by
  obtain ⟨kind, block, fx, fy, fz, tx, ty, tz, plane, cx, cy, cz, dir, full, feed, perRev, side, radius, blend, n, speed, on⟩ := i
  simp only at hk
  subst hk
  unfold rvalI r1B r3B r5B numB validI motionB sidedB endB kindB bareI baseI feedI sideI wayI headI zeroI eqI motK inK zeroC
  simp only [It.mk.injEq]
  generalize withB fx fy fz = p
  generalize withB tx ty tz = q
  generalize flOk plane = r
  by_cases hs : side = 0 <;> cases p <;> cases q <;> cases r <;> cases full <;> cases perRev <;> cases on <;> rw [Bool.eq_iff_iff] <;> simp [hs] <;> omega
set_option maxHeartbeats 4000000 in
theorem val_7 (i : It) (hk : i.kind = 7) : rvalI i = validI i := by
  obtain ⟨kind, block, fx, fy, fz, tx, ty, tz, plane, cx, cy, cz, dir, full, feed, perRev, side, radius, blend, n, speed, on⟩ := i
  simp only at hk
  subst hk
  unfold rvalI r1B r3B r5B numB validI motionB sidedB endB kindB bareI baseI feedI sideI wayI headI zeroI eqI motK inK zeroC
  simp only [It.mk.injEq]
  by_cases hf : fx = 0 ∧ fy = 0 ∧ fz = 0 ∧ tx = 0 ∧ ty = 0 ∧ tz = 0
  · obtain ⟨rfl, rfl, rfl, rfl, rfl, rfl⟩ := hf
    rw [with0]
    by_cases hs : side = 0 <;> cases full <;> cases perRev <;> cases on <;> rw [Bool.eq_iff_iff] <;> simp [hs] <;> omega
  · generalize withB fx fy fz = p
    generalize withB tx ty tz = q
    rw [Bool.eq_iff_iff]
    simp
    omega
set_option maxHeartbeats 4000000 in
theorem val_8 (i : It) (hk : i.kind = 8) : rvalI i = validI i := by
  obtain ⟨kind, block, fx, fy, fz, tx, ty, tz, plane, cx, cy, cz, dir, full, feed, perRev, side, radius, blend, n, speed, on⟩ := i
  simp only at hk
  subst hk
  unfold rvalI r1B r3B r5B numB validI motionB sidedB endB kindB bareI baseI feedI sideI wayI headI zeroI eqI motK inK zeroC
  simp only [It.mk.injEq]
  by_cases hf : fx = 0 ∧ fy = 0 ∧ fz = 0 ∧ tx = 0 ∧ ty = 0 ∧ tz = 0
  · obtain ⟨rfl, rfl, rfl, rfl, rfl, rfl⟩ := hf
    rw [with0]
    by_cases hs : side = 0 <;> cases full <;> cases perRev <;> cases on <;> rw [Bool.eq_iff_iff] <;> simp [hs] <;> omega
  · generalize withB fx fy fz = p
    generalize withB tx ty tz = q
    rw [Bool.eq_iff_iff]
    simp
    omega
set_option maxHeartbeats 4000000 in
theorem val_9 (i : It) (hk : i.kind = 9) : rvalI i = validI i := by
  obtain ⟨kind, block, fx, fy, fz, tx, ty, tz, plane, cx, cy, cz, dir, full, feed, perRev, side, radius, blend, n, speed, on⟩ := i
  simp only at hk
  subst hk
  unfold rvalI r1B r3B r5B numB validI motionB sidedB endB kindB bareI baseI feedI sideI wayI headI zeroI eqI motK inK zeroC
  simp only [It.mk.injEq]
  by_cases hf : fx = 0 ∧ fy = 0 ∧ fz = 0 ∧ tx = 0 ∧ ty = 0 ∧ tz = 0
  · obtain ⟨rfl, rfl, rfl, rfl, rfl, rfl⟩ := hf
    rw [with0]
    by_cases hs : side = 0 <;> cases full <;> cases perRev <;> cases on <;> rw [Bool.eq_iff_iff] <;> simp [hs] <;> omega
  · generalize withB fx fy fz = p
    generalize withB tx ty tz = q
    rw [Bool.eq_iff_iff]
    simp
    omega
set_option maxHeartbeats 4000000 in
theorem val_10 (i : It) (hk : i.kind = 10) : rvalI i = validI i := by
  obtain ⟨kind, block, fx, fy, fz, tx, ty, tz, plane, cx, cy, cz, dir, full, feed, perRev, side, radius, blend, n, speed, on⟩ := i
  simp only at hk
  subst hk
  unfold rvalI r1B r3B r5B numB validI motionB sidedB endB kindB bareI baseI feedI sideI wayI headI zeroI eqI motK inK zeroC
  simp only [It.mk.injEq]
  by_cases hf : fx = 0 ∧ fy = 0 ∧ fz = 0 ∧ tx = 0 ∧ ty = 0 ∧ tz = 0
  · obtain ⟨rfl, rfl, rfl, rfl, rfl, rfl⟩ := hf
    rw [with0]
    by_cases hs : side = 0 <;> cases full <;> cases perRev <;> cases on <;> rw [Bool.eq_iff_iff] <;> simp [hs] <;> omega
  · generalize withB fx fy fz = p
    generalize withB tx ty tz = q
    rw [Bool.eq_iff_iff]
    simp
    omega
set_option maxHeartbeats 4000000 in
theorem val_11 (i : It) (hk : i.kind = 11) : rvalI i = validI i := by
  obtain ⟨kind, block, fx, fy, fz, tx, ty, tz, plane, cx, cy, cz, dir, full, feed, perRev, side, radius, blend, n, speed, on⟩ := i
  simp only at hk
  subst hk
  unfold rvalI r1B r3B r5B numB validI motionB sidedB endB kindB bareI baseI feedI sideI wayI headI zeroI eqI motK inK zeroC
  simp only [It.mk.injEq]
  by_cases hf : fx = 0 ∧ fy = 0 ∧ fz = 0 ∧ tx = 0 ∧ ty = 0 ∧ tz = 0
  · obtain ⟨rfl, rfl, rfl, rfl, rfl, rfl⟩ := hf
    rw [with0]
    by_cases hs : side = 0 <;> cases full <;> cases perRev <;> cases on <;> rw [Bool.eq_iff_iff] <;> simp [hs] <;> omega
  · generalize withB fx fy fz = p
    generalize withB tx ty tz = q
    rw [Bool.eq_iff_iff]
    simp
    omega
set_option maxHeartbeats 4000000 in
theorem val_12 (i : It) (hk : i.kind = 12) : rvalI i = validI i := by
  obtain ⟨kind, block, fx, fy, fz, tx, ty, tz, plane, cx, cy, cz, dir, full, feed, perRev, side, radius, blend, n, speed, on⟩ := i
  simp only at hk
  subst hk
  unfold rvalI r1B r3B r5B numB validI motionB sidedB endB kindB bareI baseI feedI sideI wayI headI zeroI eqI motK inK zeroC
  simp only [It.mk.injEq]
  by_cases hf : fx = 0 ∧ fy = 0 ∧ fz = 0 ∧ tx = 0 ∧ ty = 0 ∧ tz = 0
  · obtain ⟨rfl, rfl, rfl, rfl, rfl, rfl⟩ := hf
    rw [with0]
    by_cases hs : side = 0 <;> cases full <;> cases perRev <;> cases on <;> rw [Bool.eq_iff_iff] <;> simp [hs] <;> omega
  · generalize withB fx fy fz = p
    generalize withB tx ty tz = q
    rw [Bool.eq_iff_iff]
    simp
    omega
set_option maxHeartbeats 4000000 in
theorem val_13 (i : It) (hk : i.kind = 13) : rvalI i = validI i := by
  obtain ⟨kind, block, fx, fy, fz, tx, ty, tz, plane, cx, cy, cz, dir, full, feed, perRev, side, radius, blend, n, speed, on⟩ := i
  simp only at hk
  subst hk
  unfold rvalI r1B r3B r5B numB validI motionB sidedB endB kindB bareI baseI feedI sideI wayI headI zeroI eqI motK inK zeroC
  simp only [It.mk.injEq]
  by_cases hf : fx = 0 ∧ fy = 0 ∧ fz = 0 ∧ tx = 0 ∧ ty = 0 ∧ tz = 0
  · obtain ⟨rfl, rfl, rfl, rfl, rfl, rfl⟩ := hf
    rw [with0]
    by_cases hs : side = 0 <;> cases full <;> cases perRev <;> cases on <;> rw [Bool.eq_iff_iff] <;> simp [hs] <;> omega
  · generalize withB fx fy fz = p
    generalize withB tx ty tz = q
    rw [Bool.eq_iff_iff]
    simp
    omega
set_option maxHeartbeats 4000000 in
theorem val_14 (i : It) (hk : i.kind = 14) : rvalI i = validI i := by
  obtain ⟨kind, block, fx, fy, fz, tx, ty, tz, plane, cx, cy, cz, dir, full, feed, perRev, side, radius, blend, n, speed, on⟩ := i
  simp only at hk
  subst hk
  unfold rvalI r1B r3B r5B numB validI motionB sidedB endB kindB bareI baseI feedI sideI wayI headI zeroI eqI motK inK zeroC
  simp only [It.mk.injEq]
  by_cases hf : fx = 0 ∧ fy = 0 ∧ fz = 0 ∧ tx = 0 ∧ ty = 0 ∧ tz = 0
  · obtain ⟨rfl, rfl, rfl, rfl, rfl, rfl⟩ := hf
    rw [with0]
    by_cases hs : side = 0 <;> cases full <;> cases perRev <;> cases on <;> rw [Bool.eq_iff_iff] <;> simp [hs] <;> omega
  · generalize withB fx fy fz = p
    generalize withB tx ty tz = q
    rw [Bool.eq_iff_iff]
    simp
    omega
theorem rval_eq (i : It) : rvalI i = validI i := by
  have hk : i.kind = 1 ∨ i.kind = 2 ∨ i.kind = 3 ∨ i.kind = 4 ∨ i.kind = 5 ∨ i.kind = 6 ∨ i.kind = 7 ∨ i.kind = 8 ∨ i.kind = 9 ∨ i.kind = 10 ∨ i.kind = 11 ∨ i.kind = 12 ∨ i.kind = 13 ∨ i.kind = 14 ∨ (i.kind < 1 ∨ 14 < i.kind) := by omega
  rcases hk with hk | hk | hk | hk | hk | hk | hk | hk | hk | hk | hk | hk | hk | hk | hk
  · exact val_1 i hk
  · exact val_2 i hk
  · exact val_3 i hk
  · exact val_4 i hk
  · exact val_5 i hk
  · exact val_6 i hk
  · exact val_7 i hk
  · exact val_8 i hk
  · exact val_9 i hk
  · exact val_10 i hk
  · exact val_11 i hk
  · exact val_12 i hk
  · exact val_13 i hk
  · exact val_14 i hk
  · have h1 : inK i.kind 1 14 = false := by unfold inK; simp; omega
    have h2 : motK i.kind = false := by unfold motK; simp; omega
    have h3 : kindB i = false := by unfold kindB; rw [if_neg (by omega), if_neg (by omega), if_neg (by omega), if_neg (by omega), if_neg (by omega), if_neg (by omega)]
    unfold rvalI r1B validI
    rw [h1, h2, h3]
    simp
end Go.Proofs.YtefdjdipbnnoaaaDoor

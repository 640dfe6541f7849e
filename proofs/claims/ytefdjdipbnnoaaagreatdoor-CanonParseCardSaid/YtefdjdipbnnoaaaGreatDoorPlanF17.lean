/-
  cncref17.Valid and canon.Valid say the same of every item. Plain.
  The text of a list of items. Plain.
-/
import Derived.Test.YtefdjdipbnnoaaaGreatDoorRVal17
import Derived.Test.YtefdjdipbnnoaaaGreatDoorBytes
namespace Go.Proofs.YtefdjdipbnnoaaaGreatDoor
open Go Go.RowKit
set_option linter.unusedVariables false
set_option linter.unusedSimpArgs false

theorem with0 : withB 0 0 0 = true := by decide
set_option maxHeartbeats 4000000 in
theorem val_1 (i : It) (hk : i.kind = 1) : rvalI i = validI i := by
  obtain ⟨kind, block, fx, fy, fz, tx, ty, tz, plane, cx, cy, cz, dir, full, feed, perRev, side, radius, blend, n, speed, on⟩ := i
  simp only at hk
  subst hk
  unfold rvalI r1B r3B r5B numB validI motionB sidedB endB kindB bareI baseI feedI sideI wayI headI zeroI eqI motK inK zeroC
  simp only [It.mk.injEq]
  generalize withB fx fy fz = p
  generalize withB tx ty tz = q
  generalize flOk plane = r
  by_cases hs : side = 0 <;> cases p <;> cases q <;> cases r <;> cases full <;> cases perRev <;> cases on <;> rw [Bool.eq_iff_iff] <;> simp [hs] <;> omega
set_option maxHeartbeats 4000000 in
theorem val_2 (i : It) (hk : i.kind = 2) : rvalI i = validI i := by
  obtain ⟨kind, block, fx, fy, fz, tx, ty, tz, plane, cx, cy, cz, dir, full, feed, perRev, side, radius, blend, n, speed, on⟩ := i
  simp only at hk
  subst hk
  unfold rvalI r1B r3B r5B numB validI motionB sidedB endB kindB bareI baseI feedI sideI wayI headI zeroI eqI motK inK zeroC
  simp only [It.mk.injEq]
  generalize withB fx fy fz = p
  generalize withB tx ty tz = q
  generalize flOk plane = r
  by_cases hs : side = 0 <;> cases p <;> cases q <;> cases r <;> cases full <;> cases perRev <;> cases on <;> rw [Bool.eq_iff_iff] <;> simp [hs] <;> omega
set_option maxHeartbeats 4000000 in
theorem val_3 (i : It) (hk : i.kind = 3) : rvalI i = validI i := by
  obtain ⟨kind, block, fx, fy, fz, tx, ty, tz, plane, cx, cy, cz, dir, full, feed, perRev, side, radius, blend, n, speed, on⟩ := i
  simp only at hk
  subst hk
  unfold rvalI r1B r3B r5B numB validI motionB sidedB endB kindB bareI baseI feedI sideI wayI headI zeroI eqI motK inK zeroC
  simp only [It.mk.injEq]
  generalize withB fx fy fz = p
  generalize withB tx ty tz = q
  generalize flOk plane = r
  generalize arcE _ = ae
  by_cases hs : side = 0 <;> cases p <;> cases q <;> cases r <;> cases full <;> cases perRev <;> cases on <;> rw [Bool.eq_iff_iff] <;> simp [hs] <;> omega
set_option maxHeartbeats 4000000 in
theorem val_4 (i : It) (hk : i.kind = 4) : rvalI i = validI i := by
  obtain ⟨kind, block, fx, fy, fz, tx, ty, tz, plane, cx, cy, cz, dir, full, feed, perRev, side, radius, blend, n, speed, on⟩ := i
  simp only at hk
  subst hk
  unfold rvalI r1B r3B r5B numB validI motionB sidedB endB kindB bareI baseI feedI sideI wayI headI zeroI eqI motK inK zeroC
  simp only [It.mk.injEq]
  generalize withB fx fy fz = p
  generalize withB tx ty tz = q
  generalize flOk plane = r
  by_cases hs : side = 0 <;> cases p <;> cases q <;> cases r <;> cases full <;> cases perRev <;> cases on <;> rw [Bool.eq_iff_iff] <;> simp [hs] <;> omega
set_option maxHeartbeats 4000000 in
theorem val_5 (i : It) (hk : i.kind = 5) : rvalI i = validI i := by
  obtain ⟨kind, block, fx, fy, fz, tx, ty, tz, plane, cx, cy, cz, dir, full, feed, perRev, side, radius, blend, n, speed, on⟩ := i
  simp only at hk
  subst hk
  unfold rvalI r1B r3B r5B numB validI motionB sidedB endB kindB bareI baseI feedI sideI wayI headI zeroI eqI motK inK zeroC
  simp only [It.mk.injEq]
  generalize withB fx fy fz = p
  generalize withB tx ty tz = q
  generalize flOk plane = r
  by_cases hs : side = 0 <;> cases p <;> cases q <;> cases r <;> cases full <;> cases perRev <;> cases on <;> rw [Bool.eq_iff_iff] <;> simp [hs] <;> omega
set_option maxHeartbeats 4000000 in
theorem val_6 (i : It) (hk : i.kind = 6) : rvalI i = validI i := by
  obtain ⟨kind, block, fx, fy, fz, tx, ty, tz, plane, cx, cy, cz, dir, full, feed, perRev, side, radius, blend, n, speed, on⟩ := i
  simp only at hk
  subst hk
  unfold rvalI r1B r3B r5B numB validI motionB sidedB endB kindB bareI baseI feedI sideI wayI headI zeroI eqI motK inK zeroC
  simp only [It.mk.injEq]
  generalize withB fx fy fz = p
  generalize withB tx ty tz = q
  generalize flOk plane = r
  by_cases hs : side = 0 <;> cases p <;> cases q <;> cases r <;> cases full <;> cases perRev <;> cases on <;> rw [Bool.eq_iff_iff] <;> simp [hs] <;> omega
set_option maxHeartbeats 4000000 in
theorem val_7 (i : It) (hk : i.kind = 7) : rvalI i = validI i := by
  obtain ⟨kind, block, fx, fy, fz, tx, ty, tz, plane, cx, cy, cz, dir, full, feed, perRev, side, radius, blend, n, speed, on⟩ := i
  simp only at hk
  subst hk
  unfold rvalI r1B r3B r5B numB validI motionB sidedB endB kindB bareI baseI feedI sideI wayI headI zeroI eqI motK inK zeroC
  simp only [It.mk.injEq]
  by_cases hf : fx = 0 ∧ fy = 0 ∧ fz = 0 ∧ tx = 0 ∧ ty = 0 ∧ tz = 0
  · obtain ⟨rfl, rfl, rfl, rfl, rfl, rfl⟩ := hf
    rw [with0]
    by_cases hs : side = 0 <;> cases full <;> cases perRev <;> cases on <;> rw [Bool.eq_iff_iff] <;> simp [hs] <;> omega
  · generalize withB fx fy fz = p
    generalize withB tx ty tz = q
    rw [Bool.eq_iff_iff]
    simp
    omega
set_option maxHeartbeats 4000000 in
theorem val_8 (i : It) (hk : i.kind = 8) : rvalI i = validI i := by
  obtain ⟨kind, block, fx, fy, fz, tx, ty, tz, plane, cx, cy, cz, dir, full, feed, perRev, side, radius, blend, n, speed, on⟩ := i
  simp only at hk
  subst hk
  unfold rvalI r1B r3B r5B numB validI motionB sidedB endB kindB bareI baseI feedI sideI wayI headI zeroI eqI motK inK zeroC
  simp only [It.mk.injEq]
  by_cases hf : fx = 0 ∧ fy = 0 ∧ fz = 0 ∧ tx = 0 ∧ ty = 0 ∧ tz = 0
  · obtain ⟨rfl, rfl, rfl, rfl, rfl, rfl⟩ := hf
    rw [with0]
    by_cases hs : side = 0 <;> cases full <;> cases perRev <;> cases on <;> rw [Bool.eq_iff_iff] <;> simp [hs] <;> omega
  · generalize withB fx fy fz = p
    generalize withB tx ty tz = q
    rw [Bool.eq_iff_iff]
    simp
    omega
set_option maxHeartbeats 4000000 in
theorem val_9 (i : It) (hk : i.kind = 9) : rvalI i = validI i := by
  obtain ⟨kind, block, fx, fy, fz, tx, ty, tz, plane, cx, cy, cz, dir, full, feed, perRev, side, radius, blend, n, speed, on⟩ := i
  simp only at hk
  subst hk
  unfold rvalI r1B r3B r5B numB validI motionB sidedB endB kindB bareI baseI feedI sideI wayI headI zeroI eqI motK inK zeroC
  simp only [It.mk.injEq]
  by_cases hf : fx = 0 ∧ fy = 0 ∧ fz = 0 ∧ tx = 0 ∧ ty = 0 ∧ tz = 0
  · obtain ⟨rfl, rfl, rfl, rfl, rfl, rfl⟩ := hf
    rw [with0]
    by_cases hs : side = 0 <;> cases full <;> cases perRev <;> cases on <;> rw [Bool.eq_iff_iff] <;> simp [hs] <;> omega
  · generalize withB fx fy fz = p
    generalize withB tx ty tz = q
    rw [Bool.eq_iff_iff]
    simp
    omega
set_option maxHeartbeats 4000000 in
theorem val_10 (i : It) (hk : i.kind = 10) : rvalI i = validI i := by
  obtain ⟨kind, block, fx, fy, fz, tx, ty, tz, plane, cx, cy, cz, dir, full, feed, perRev, side, radius, blend, n, speed, on⟩ := i
  simp only at hk
  subst hk
  unfold rvalI r1B r3B r5B numB validI motionB sidedB endB kindB bareI baseI feedI sideI wayI headI zeroI eqI motK inK zeroC
  simp only [It.mk.injEq]
  by_cases hf : fx = 0 ∧ fy = 0 ∧ fz = 0 ∧ tx = 0 ∧ ty = 0 ∧ tz = 0
  · obtain ⟨rfl, rfl, rfl, rfl, rfl, rfl⟩ := hf
    rw [with0]
    by_cases hs : side = 0 <;> cases full <;> cases perRev <;> cases on <;> rw [Bool.eq_iff_iff] <;> simp [hs] <;> omega
  · generalize withB fx fy fz = p
    generalize withB tx ty tz = q
    rw [Bool.eq_iff_iff]
    simp
    omega
set_option maxHeartbeats 4000000 in
theorem val_11 (i : It) (hk : i.kind = 11) : rvalI i = validI i := by
  obtain ⟨kind, block, fx, fy, fz, tx, ty, tz, plane, cx, cy, cz, dir, full, feed, perRev, side, radius, blend, n, speed, on⟩ := i
  simp only at hk
  subst hk
  unfold rvalI r1B r3B r5B numB validI motionB sidedB endB kindB bareI baseI feedI sideI wayI headI zeroI eqI motK inK zeroC
  simp only [It.mk.injEq]
  by_cases hf : fx = 0 ∧ fy = 0 ∧ fz = 0 ∧ tx = 0 ∧ ty = 0 ∧ tz = 0
  · obtain ⟨rfl, rfl, rfl, rfl, rfl, rfl⟩ := hf
    rw [with0]
    by_cases hs : side = 0 <;> cases full <;> cases perRev <;> cases on <;> rw [Bool.eq_iff_iff] <;> simp [hs] <;> omega
  · generalize withB fx fy fz = p
    generalize withB tx ty tz = q
    rw [Bool.eq_iff_iff]
    simp
    omega
set_option maxHeartbeats 4000000 in
theorem val_12 (i : It) (hk : i.kind = 12) : rvalI i = validI i := by
  obtain ⟨kind, block, fx, fy, fz, tx, ty, tz, plane, cx, cy, cz, dir, full, feed, perRev, side, radius, blend, n, speed, on⟩ := i
  simp only at hk
  subst hk
  unfold rvalI r1B r3B r5B numB validI motionB sidedB endB kindB bareI baseI feedI sideI wayI headI zeroI eqI motK inK zeroC
  simp only [It.mk.injEq]
  by_cases hf : fx = 0 ∧ fy = 0 ∧ fz = 0 ∧ tx = 0 ∧ ty = 0 ∧ tz = 0
  · obtain ⟨rfl, rfl, rfl, rfl, rfl, rfl⟩ := hf
    rw [with0]
    by_cases hs : side = 0 <;> cases full <;> cases perRev <;> cases on <;> rw [Bool.eq_iff_iff] <;> simp [hs] <;> omega
  · generalize withB fx fy fz = p
    generalize withB tx ty tz = q
    rw [Bool.eq_iff_iff]
    simp
    omega
set_option maxHeartbeats 4000000 in
theorem val_13 (i : It) (hk : i.kind = 13) : rvalI i = validI i := by
  obtain ⟨kind, block, fx, fy, fz, tx, ty, tz, plane, cx, cy, cz, dir, full, feed, perRev, side, radius, blend, n, speed, on⟩ := i
  simp only at hk
  subst hk
  unfold rvalI r1B r3B r5B numB validI motionB sidedB endB kindB bareI baseI feedI sideI wayI headI zeroI eqI motK inK zeroC
  simp only [It.mk.injEq]
  by_cases hf : fx = 0 ∧ fy = 0 ∧ fz = 0 ∧ tx = 0 ∧ ty = 0 ∧ tz = 0
  · obtain ⟨rfl, rfl, rfl, rfl, rfl, rfl⟩ := hf
    rw [with0]
    by_cases hs : side = 0 <;> cases full <;> cases perRev <;> cases on <;> rw [Bool.eq_iff_iff] <;> simp [hs] <;> omega
  · generalize withB fx fy fz = p
    generalize withB tx ty tz = q
    rw [Bool.eq_iff_iff]
    simp
    omega
set_option maxHeartbeats 4000000 in
theorem val_14 (i : It) (hk : i.kind = 14) : rvalI i = validI i := by
  obtain ⟨kind, block, fx, fy, fz, tx, ty, tz, plane, cx, cy, cz, dir, full, feed, perRev, side, radius, blend, n, speed, on⟩ := i
  simp only at hk
  subst hk
  unfold rvalI r1B r3B r5B numB validI motionB sidedB endB kindB bareI baseI feedI sideI wayI headI zeroI eqI motK inK zeroC
  simp only [It.mk.injEq]
  by_cases hf : fx = 0 ∧ fy = 0 ∧ fz = 0 ∧ tx = 0 ∧ ty = 0 ∧ tz = 0
  · obtain ⟨rfl, rfl, rfl, rfl, rfl, rfl⟩ := hf
    rw [with0]
    by_cases hs : side = 0 <;> cases full <;> cases perRev <;> cases on <;> rw [Bool.eq_iff_iff] <;> simp [hs] <;> omega
  · generalize withB fx fy fz = p
    generalize withB tx ty tz = q
    rw [Bool.eq_iff_iff]
    simp
    omega
theorem rval_eq (i : It) : rvalI i = validI i := by
  have hk : i.kind = 1 ∨ i.kind = 2 ∨ i.kind = 3 ∨ i.kind = 4 ∨ i.kind = 5 ∨ i.kind = 6 ∨ i.kind = 7 ∨ i.kind = 8 ∨ i.kind = 9 ∨ i.kind = 10 ∨ i.kind = 11 ∨ i.kind = 12 ∨ i.kind = 13 ∨ i.kind = 14 ∨ (i.kind < 1 ∨ 14 < i.kind) := by omega
  rcases hk with hk | hk | hk | hk | hk | hk | hk | hk | hk | hk | hk | hk | hk | hk | hk
  · exact val_1 i hk
  · exact val_2 i hk
  · exact val_3 i hk
  · exact val_4 i hk
  · exact val_5 i hk
  · exact val_6 i hk
  · exact val_7 i hk
  · exact val_8 i hk
  · exact val_9 i hk
  · exact val_10 i hk
  · exact val_11 i hk
  · exact val_12 i hk
  · exact val_13 i hk
  · exact val_14 i hk
  · have h1 : inK i.kind 1 14 = false := by unfold inK; simp; omega
    have h2 : motK i.kind = false := by unfold motK; simp; omega
    have h3 : kindB i = false := by unfold kindB; rw [if_neg (by omega), if_neg (by omega), if_neg (by omega), if_neg (by omega), if_neg (by omega), if_neg (by omega)]
    unfold rvalI r1B validI
    rw [h1, h2, h3]
    simp
end Go.Proofs.YtefdjdipbnnoaaaGreatDoor

namespace Go.Proofs.YtefdjdipbnnoaaaGreatDoor
open Go Go.RowKit
set_option linter.unusedVariables false

def kindsL : List (List UInt8) := [[], [114, 97, 112, 105, 100], [108, 105, 110, 101], [97, 114, 99], [112, 114, 111, 98, 101], [116, 104, 114, 101, 97, 100], [116, 97, 112], [100, 119, 101, 108, 108], [115, 112, 105, 110, 100, 108, 101], [99, 111, 111, 108, 97, 110, 116], [111, 117, 116, 112, 117, 116], [116, 111, 111, 108], [115, 116, 111, 112], [111, 112, 116, 105, 111, 110, 97, 108], [101, 110, 100]]
/-- The name of a kind. -/
def kname (k : Nat) : List UInt8 := kindsL.getD k []
def b2i (b : Bool) : Int := if b then 1 else 0
/-- The numbers of an item, in the order in which they are written. -/
def numsI (i : It) : List Int := [i.block, i.fx, i.fy, i.fz, i.tx, i.ty, i.tz, i.plane, i.cx, i.cy, i.cz, i.dir, b2i i.full, i.feed, b2i i.perRev, i.side, i.radius, i.blend, i.n, i.speed, b2i i.on]
def preN (l : List Int) : List UInt8 := l.flatMap fun n => 32 :: Lib.itoa n
def fmtI (i : It) : List UInt8 := kname i.kind.toNat ++ preN (numsI i) ++ [10]
def fmtIs (l : List It) : List UInt8 := l.flatMap fmtI
/-- canon.Format. -/
def formatI (l : List It) : List UInt8 := if l.all validI then fmtIs l else []
theorem kname_len (k : Nat) : (kname k).length ≤ 8 := by
  by_cases h : k < 15
  · match k, h with
    | 0, _ => decide
    | 1, _ => decide
    | 2, _ => decide
    | 3, _ => decide
    | 4, _ => decide
    | 5, _ => decide
    | 6, _ => decide
    | 7, _ => decide
    | 8, _ => decide
    | 9, _ => decide
    | 10, _ => decide
    | 11, _ => decide
    | 12, _ => decide
    | 13, _ => decide
    | 14, _ => decide
    | n + 15, h => exact absurd h (by omega)
  · have : kindsL.getD k [] = [] := by rw [List.getD_eq_getElem?_getD, List.getElem?_eq_none (by have : kindsL.length = 15 := rfl; omega)]; rfl
    unfold kname
    rw [this]
    decide
/-- The numbers that a text may hold. -/
def Rd (n : Int) : Prop := -60000000 ≤ n ∧ n ≤ 60000000
theorem Rd.itoa {n : Int} (h : Rd n) : (Lib.itoa n).length ≤ 9 := itoa_most (k := 7) (by have : (10 : Nat) ^ (7 + 1) = 100000000 := by decide
                                                                                         obtain ⟨h1, h2⟩ := h; omega)
theorem b2i_rd (b : Bool) : Rd (b2i b) := by cases b <;> (unfold Rd b2i; decide)
theorem insB_rd {n : Int} (h : insB n = true) : Rd n := by have := insB_true h; unfold Rd; omega
theorem withB_rd {x y z : Int} (h : withB x y z = true) : Rd x ∧ Rd y ∧ Rd z := by
  unfold withB at h
  simp only [Bool.and_eq_true] at h
  exact ⟨insB_rd h.1.1, insB_rd h.1.2, insB_rd h.2⟩
theorem arcE_arg {i : It} (h : arcE i = 0) : arcArg i = true := by
  unfold arcE at h
  split at h
  · assumption
  · cases h
theorem validI_kind {i : It} (h : validI i = true) : 1 ≤ i.kind ∧ i.kind ≤ 14 := by
  rw [← rval_eq] at h
  unfold rvalI r1B inK at h
  simp only [Bool.and_eq_true, decide_eq_true_eq] at h
  exact h.1.1
theorem nums_rd {i : It} (h : validI i = true) : ∀ n ∈ numsI i, Rd n := by
  have hk := validI_kind h
  unfold validI at h
  rw [Bool.and_eq_true, decide_eq_true_eq] at h
  obtain ⟨hb, h⟩ := h
  have hbk : Rd i.block := by unfold Rd; omega
  have hall : Rd i.fx ∧ Rd i.fy ∧ Rd i.fz ∧ Rd i.tx ∧ Rd i.ty ∧ Rd i.tz ∧ Rd i.plane ∧ Rd i.cx ∧ Rd i.cy ∧ Rd i.cz ∧ Rd i.dir ∧ Rd i.feed ∧ Rd i.side ∧ Rd i.radius ∧ Rd i.blend ∧ Rd i.n ∧ Rd i.speed := by
    by_cases hm : motK i.kind = true
    · rw [if_pos hm] at h
      have hm2 : 1 ≤ i.kind ∧ i.kind ≤ 6 := of_decide_eq_true hm
      unfold motionB at h
      simp only [Bool.and_eq_true, decide_eq_true_eq] at h
      obtain ⟨h1, h2, h3, h4, h5, h6, h7⟩ := h
      obtain ⟨f1, f2, f3⟩ := withB_rd h1
      obtain ⟨t1, t2, t3⟩ := withB_rd h2
      unfold endB at h7
      rw [decide_eq_true_eq] at h7
      have hcd : Rd i.cx ∧ Rd i.cy ∧ Rd i.cz ∧ Rd i.dir ∧ Rd i.plane := by
        by_cases h3k : i.kind = 3
        · rw [if_pos h3k] at h6
          have ha := arcE_arg h6
          unfold arcArg at ha
          simp only [Bool.and_eq_true, decide_eq_true_eq] at ha
          obtain ⟨_, hp, _, _, hc, hd, _⟩ := ha
          obtain ⟨c1, c2, c3⟩ := withB_rd hc
          unfold flOk at hp
          rw [decide_eq_true_eq] at hp
          exact ⟨c1, c2, c3, by unfold Rd; omega, by unfold Rd; omega⟩
        · rw [if_neg h3k] at h6
          obtain ⟨c1, c2, c3, c4, _⟩ := h6
          refine ⟨by unfold Rd; omega, by unfold Rd; omega, by unfold Rd; omega, by unfold Rd; omega, ?_⟩
          unfold sidedB at h5
          split at h5
          · rw [decide_eq_true_eq] at h5
            unfold Rd
            omega
          · rw [decide_eq_true_eq] at h5
            have hp := h5.2.1
            unfold flOk at hp
            rw [decide_eq_true_eq] at hp
            unfold Rd
            omega
      have hsr : Rd i.side ∧ Rd i.radius := by
        unfold sidedB at h5
        split at h5
        · rw [decide_eq_true_eq] at h5
          unfold Rd
          omega
        · rw [decide_eq_true_eq] at h5
          unfold Rd
          omega
      refine ⟨f1, f2, f3, t1, t2, t3, hcd.2.2.2.2, hcd.1, hcd.2.1, hcd.2.2.1, hcd.2.2.2.1, ?_, hsr.1, hsr.2, ?_, ?_, by unfold Rd; omega⟩
      · unfold Rd
        split at h7 <;> split at h7 <;> omega
      · unfold Rd
        obtain ⟨_, h8⟩ := h7
        split at h8
        · omega
        · obtain ⟨_, _, h8⟩ := h8
          split at h8
          · omega
          · split at h8 <;> omega
      · unfold Rd
        split at h7 <;> omega
    · rw [if_neg hm, Bool.and_eq_true] at h
      obtain ⟨he, hkB⟩ := h
      have he : i = bareI i := of_decide_eq_true he
      have hz : Rd 0 := by unfold Rd; omega
      have hnn : Rd i.n ∧ Rd i.speed := by
        unfold kindB at hkB
        unfold Rd
        repeat' split at hkB
        all_goals first
          | (rw [decide_eq_true_eq] at hkB; omega)
          | cases hkB
      rw [he]
      unfold bareI
      exact ⟨hz, hz, hz, hz, hz, hz, hz, hz, hz, hz, hz, hz, hz, hz, hz, hnn.1, hnn.2⟩
  obtain ⟨a1, a2, a3, a4, a5, a6, a7, a8, a9, a10, a11, a12, a13, a14, a15, a16, a17⟩ := hall
  intro n hn
  unfold numsI at hn
  simp only [List.mem_cons, List.not_mem_nil, or_false] at hn
  rcases hn with rfl | rfl | rfl | rfl | rfl | rfl | rfl | rfl | rfl | rfl | rfl | rfl | rfl | rfl | rfl | rfl | rfl | rfl | rfl | rfl | rfl
  all_goals first | assumption | exact b2i_rd _
theorem preN_len : ∀ {l : List Int}, (∀ n ∈ l, Rd n) → (preN l).length ≤ 10 * l.length
  | [], _ => by simp [preN]
  | n :: l, h => by
    have h1 := (h n List.mem_cons_self).itoa
    have h2 := preN_len (l := l) fun x hx => h x (List.mem_cons_of_mem _ hx)
    unfold preN at h2 ⊢
    rw [List.flatMap_cons, List.length_append, List.length_cons, List.length_cons]
    omega
theorem preN_snoc (l : List Int) (n : Int) : preN (l ++ [n]) = preN l ++ [32] ++ Lib.itoa n := by simp [preN]
theorem fmtI_len {i : It} (h : validI i = true) : (fmtI i).length ≤ 219 := by
  have h1 := kname_len i.kind.toNat
  have h2 := preN_len (nums_rd h)
  have h3 : (numsI i).length = 21 := rfl
  unfold fmtI
  simp only [List.length_append, List.length_cons, List.length_nil]
  omega
theorem fmtIs_snoc (l : List It) (t : It) : fmtIs (l ++ [t]) = fmtIs l ++ fmtI t := by simp [fmtIs]
theorem fmtIs_len : ∀ {l : List It}, (∀ t ∈ l, validI t = true) → (fmtIs l).length ≤ 219 * l.length
  | [], _ => by simp [fmtIs]
  | t :: l, h => by
    have h1 := fmtI_len (h t List.mem_cons_self)
    have h2 := fmtIs_len (l := l) fun x hx => h x (List.mem_cons_of_mem _ hx)
    unfold fmtIs at h2 ⊢
    rw [List.flatMap_cons, List.length_append, List.length_cons]
    omega
theorem take_snoc {α : Type} {l : List α} {k : Nat} {x : α} (h : l[k]? = some x) : l.take (k + 1) = l.take k ++ [x] := by
  obtain ⟨hl, rfl⟩ := List.getElem?_eq_some_iff.1 h
  rw [List.take_succ_eq_append_getElem hl]
end Go.Proofs.YtefdjdipbnnoaaaGreatDoor

/-
  The sectors of arcs: the program's test and the reference's agree on the four directions of the axes. Plain.
-/
import Derived.Test.YtefdjdipbnnoaaaGreatDoorVec17
namespace Go.Proofs.YtefdjdipbnnoaaaGreatDoor
open Go Go.RowKit
set_option linter.unusedVariables false

/-- arc.half of a sector. -/
def halfV (au aw pu pw : Int) : Int := if 0 < crs au aw pu pw ∨ crs au aw pu pw = 0 ∧ 0 < inn au aw pu pw then 0 else 1
def contV (au aw bu bw pu pw : Int) : Bool := decide (halfV au aw pu pw < halfV au aw bu bw ∨ halfV au aw pu pw = halfV au aw bu bw ∧ 0 ≤ crs pu pw bu bw)
def rhalfV (au aw pu pw d : Int) : Int := if 0 < crs au aw pu pw * d ∨ crs au aw pu pw * d = 0 ∧ 0 < inn au aw pu pw then 0 else 1
def sweepV (au aw bu bw pu pw d : Int) : Bool := if rhalfV au aw pu pw d ≠ rhalfV au aw bu bw d then decide (rhalfV au aw pu pw d < rhalfV au aw bu bw d) else decide (0 ≤ crs pu pw bu bw * d)
theorem sweep_pos (au aw bu bw pu pw : Int) : sweepV au aw bu bw pu pw 1 = contV au aw bu bw pu pw := by
  unfold sweepV contV
  have e : ∀ x y, rhalfV au aw x y 1 = halfV au aw x y := fun x y => by unfold rhalfV halfV; rw [Int.mul_one]
  rw [e, e, Int.mul_one]
  by_cases h : halfV au aw pu pw = halfV au aw bu bw
  · simp [h]
  · simp [h]
/-- The sign of a number: 0, 1, 2. -/
def sgF (x : Int) : Fin 3 := if x < 0 then 0 else if x = 0 then 1 else 2
def ngF (s : Fin 3) : Fin 3 := 2 - s
def mlF (s t : Fin 3) : Fin 3 := if s = 1 ∨ t = 1 then 1 else if s = t then 2 else 0
def okF (x s t : Fin 3) : Bool := if s = t then s != 1 || x == 1 else if t < s then x == 2 else x == 0
def hfF (x i : Fin 3) : Int := if x = 2 ∨ x = 1 ∧ i = 2 then 0 else 1
theorem sgF_pos (x : Int) : sgF x = 2 ↔ 0 < x := by
  unfold sgF
  split
  · simp; omega
  · split
    · simp; omega
    · simp; omega
theorem sgF_zero (x : Int) : sgF x = 1 ↔ x = 0 := by
  unfold sgF
  split
  · simp; omega
  · split
    · simp; omega
    · simp; omega
theorem sgF_neg (x : Int) : sgF (-x) = ngF (sgF x) := by
  unfold sgF ngF
  rcases (show x < 0 ∨ x = 0 ∨ 0 < x by omega) with h | h | h
  · rw [if_neg (by omega), if_neg (by omega), if_pos h]; rfl
  · rw [if_neg (by omega), if_pos (by omega), if_neg (by omega), if_pos h]; rfl
  · rw [if_pos (by omega), if_neg (by omega), if_neg (by omega)]; rfl
theorem sgF_mul (x y : Int) : sgF (x * y) = mlF (sgF x) (sgF y) := by
  unfold sgF
  rcases (show x < 0 ∨ x = 0 ∨ 0 < x by omega) with h | h | h
  · rcases (show y < 0 ∨ y = 0 ∨ 0 < y by omega) with k | k | k
    · have := Int.mul_pos_of_neg_of_neg h k
      rw [if_neg (by omega), if_neg (by omega), if_pos h, if_pos k]; rfl
    · subst k
      rw [Int.mul_zero, if_pos h]; rfl
    · have := Int.mul_neg_of_neg_of_pos h k
      rw [if_pos (by omega), if_pos h, if_neg (by omega), if_neg (by omega)]; rfl
  · subst h
    rw [Int.zero_mul]
    rcases (show y < 0 ∨ y = 0 ∨ 0 < y by omega) with k | k | k
    · rw [if_pos k]; rfl
    · subst k; rfl
    · rw [if_neg (by omega : ¬ y < 0), if_neg (by omega : ¬ y = 0)]; rfl
  · rcases (show y < 0 ∨ y = 0 ∨ 0 < y by omega) with k | k | k
    · have := Int.mul_neg_of_pos_of_neg h k
      rw [if_pos (by omega), if_neg (by omega), if_neg (by omega), if_pos k]; rfl
    · subst k
      rw [Int.mul_zero, if_neg (by omega : ¬ x < 0), if_neg (by omega : ¬ x = 0)]; rfl
    · have := Int.mul_pos h k
      rw [if_neg (by omega), if_neg (by omega), if_neg (by omega), if_neg (by omega), if_neg (by omega), if_neg (by omega)]; rfl
theorem sgF_cases (x : Int) : (sgF x = 0 ∧ x < 0) ∨ (sgF x = 1 ∧ x = 0) ∨ (sgF x = 2 ∧ 0 < x) := by
  unfold sgF
  rcases (show x < 0 ∨ x = 0 ∨ 0 < x by omega) with h | h | h
  · exact .inl ⟨if_pos h, h⟩
  · exact .inr (.inl ⟨by rw [if_neg (by omega), if_pos h], h⟩)
  · exact .inr (.inr ⟨by rw [if_neg (by omega), if_neg (by omega)], h⟩)
theorem okF_sub (x y : Int) : okF (sgF (x - y)) (sgF x) (sgF y) = true := by
  rcases sgF_cases x with ⟨h1, h2⟩ | ⟨h1, h2⟩ | ⟨h1, h2⟩ <;> rcases sgF_cases y with ⟨k1, k2⟩ | ⟨k1, k2⟩ | ⟨k1, k2⟩ <;> rcases sgF_cases (x - y) with ⟨m1, m2⟩ | ⟨m1, m2⟩ | ⟨m1, m2⟩ <;> rw [h1, k1, m1] <;> first | (exfalso; omega) | rfl
theorem half_sg (au aw pu pw : Int) : halfV au aw pu pw = hfF (sgF (crs au aw pu pw)) (sgF (inn au aw pu pw)) := by
  unfold halfV hfF
  simp only [sgF_pos, sgF_zero]
theorem rhalf_sg (au aw pu pw : Int) : rhalfV au aw pu pw (-1) = hfF (ngF (sgF (crs au aw pu pw))) (sgF (inn au aw pu pw)) := by
  unfold rhalfV hfF
  rw [← sgF_neg, show crs au aw pu pw * -1 = -crs au aw pu pw by omega]
  simp only [sgF_pos, sgF_zero]
def contF (xp ip xb ib x2 : Fin 3) : Bool := decide (hfF xp ip < hfF xb ib ∨ hfF xp ip = hfF xb ib ∧ x2 ≠ 0)
def sweepF (xp ip xb ib x2 : Fin 3) : Bool := if hfF (ngF xp) ip ≠ hfF (ngF xb) ib then decide (hfF (ngF xp) ip < hfF (ngF xb) ib) else x2 != 2
theorem sg_ge (x : Int) : 0 ≤ x ↔ sgF x ≠ 0 := by
  rcases sgF_cases x with ⟨h1, h2⟩ | ⟨h1, h2⟩ | ⟨h1, h2⟩ <;> rw [h1] <;> simp <;> omega
theorem cont_sg (au aw bu bw pu pw : Int) : contV au aw bu bw pu pw = contF (sgF (crs au aw pu pw)) (sgF (inn au aw pu pw)) (sgF (crs au aw bu bw)) (sgF (inn au aw bu bw)) (sgF (crs pu pw bu bw)) := by
  unfold contV contF
  simp only [half_sg, sg_ge]
theorem sweep_sg (au aw bu bw pu pw : Int) : sweepV au aw bu bw pu pw (-1) = sweepF (sgF (crs au aw pu pw)) (sgF (inn au aw pu pw)) (sgF (crs au aw bu bw)) (sgF (inn au aw bu bw)) (sgF (crs pu pw bu bw)) := by
  unfold sweepV sweepF
  simp only [rhalf_sg]
  split
  · rfl
  · rw [show crs pu pw bu bw * -1 = -crs pu pw bu bw by omega]
    rcases sgF_cases (crs pu pw bu bw) with ⟨h1, h2⟩ | ⟨h1, h2⟩ | ⟨h1, h2⟩ <;> rw [h1] <;> simp <;> omega
def keyB (A B C D x i : Fin 3) : Bool :=
  !(okF x (mlF A D) (mlF B C)) || !(okF i (mlF A C) (ngF (mlF B D))) || (A == 1 && B == 1) || (C == 1 && D == 1) || (x == 1 && i == 2) ||
  (sweepF (ngF B) A x i D == contF (ngF D) C (ngF x) i B && sweepF A B x i (ngF C) == contF C D (ngF x) i (ngF A) &&
    sweepF B (ngF A) x i (ngF D) == contF D (ngF C) (ngF x) i (ngF B) && sweepF (ngF A) (ngF B) x i C == contF (ngF C) (ngF D) (ngF x) i A)
theorem keyB_all : ∀ (A B C D x i : Fin 3), keyB A B C D x i = true := by decide +kernel
theorem key_F (A B C D x i : Fin 3) (h1 : okF x (mlF A D) (mlF B C) = true) (h2 : okF i (mlF A C) (ngF (mlF B D)) = true) (h3 : ¬ (A = 1 ∧ B = 1)) (h4 : ¬ (C = 1 ∧ D = 1)) (h5 : ¬ (x = 1 ∧ i = 2)) :
    sweepF (ngF B) A x i D = contF (ngF D) C (ngF x) i B ∧ sweepF A B x i (ngF C) = contF C D (ngF x) i (ngF A) ∧
    sweepF B (ngF A) x i (ngF D) = contF D (ngF C) (ngF x) i (ngF B) ∧ sweepF (ngF A) (ngF B) x i C = contF (ngF C) (ngF D) (ngF x) i A := by
  have k := keyB_all A B C D x i
  unfold keyB at k
  simp only [Bool.or_eq_true, Bool.and_eq_true, Bool.not_eq_true', beq_iff_eq, h1, h2] at k
  rcases k with ((((k | k) | k) | k) | k) | ⟨⟨⟨k1, k2⟩, k3⟩, k4⟩
  · exact absurd k (by simp)
  · exact absurd k (by simp)
  · exact absurd k h3
  · exact absurd k h4
  · exact absurd k h5
  · exact ⟨k1, k2, k3, k4⟩
theorem sweep_neg (au aw bu bw pu pw : Int) (ha : ¬ (au = 0 ∧ aw = 0)) (hb : ¬ (bu = 0 ∧ bw = 0)) (hal : ¬ (crs au aw bu bw = 0 ∧ 0 < inn au aw bu bw))
    (hp : (pu = 1 ∧ pw = 0) ∨ (pu = 0 ∧ pw = 1) ∨ (pu = -1 ∧ pw = 0) ∨ (pu = 0 ∧ pw = -1)) : sweepV au aw bu bw pu pw (-1) = contV bu bw au aw pu pw := by
  rw [sweep_sg, cont_sg]
  have ex : crs bu bw au aw = -crs au aw bu bw := by unfold crs; rw [Int.mul_comm bu aw, Int.mul_comm bw au]; omega
  have ei : inn bu bw au aw = inn au aw bu bw := by unfold inn; rw [Int.mul_comm bu au, Int.mul_comm bw aw]
  rw [ex, ei, sgF_neg]
  have K := key_F (sgF au) (sgF aw) (sgF bu) (sgF bw) (sgF (crs au aw bu bw)) (sgF (inn au aw bu bw)) (by rw [← sgF_mul, ← sgF_mul]; exact okF_sub _ _)
    (by rw [← sgF_mul, ← sgF_mul, ← sgF_neg]; unfold inn; have := okF_sub (au * bu) (-(aw * bw)); rw [Int.sub_neg] at this; exact this)
    (by rw [sgF_zero, sgF_zero]; exact ha) (by rw [sgF_zero, sgF_zero]; exact hb) (by rw [sgF_zero, sgF_pos]; exact hal)
  have c1 : ∀ u v, crs u v 1 0 = -v := fun u v => by unfold crs; omega
  have c2 : ∀ u v, crs u v 0 1 = u := fun u v => by unfold crs; omega
  have c3 : ∀ u v, crs u v (-1) 0 = v := fun u v => by unfold crs; omega
  have c4 : ∀ u v, crs u v 0 (-1) = -u := fun u v => by unfold crs; omega
  have d1 : ∀ u v, crs 1 0 u v = v := fun u v => by unfold crs; omega
  have d2 : ∀ u v, crs 0 1 u v = -u := fun u v => by unfold crs; omega
  have d3 : ∀ u v, crs (-1) 0 u v = -v := fun u v => by unfold crs; omega
  have d4 : ∀ u v, crs 0 (-1) u v = u := fun u v => by unfold crs; omega
  have i1 : ∀ u v, inn u v 1 0 = u := fun u v => by unfold inn; omega
  have i2 : ∀ u v, inn u v 0 1 = v := fun u v => by unfold inn; omega
  have i3 : ∀ u v, inn u v (-1) 0 = -u := fun u v => by unfold inn; omega
  have i4 : ∀ u v, inn u v 0 (-1) = -v := fun u v => by unfold inn; omega
  rcases hp with ⟨rfl, rfl⟩ | ⟨rfl, rfl⟩ | ⟨rfl, rfl⟩ | ⟨rfl, rfl⟩
  · rw [c1, c1, d1, d1, i1, i1, sgF_neg, sgF_neg]; exact K.1
  · rw [c2, c2, d2, d2, i2, i2, sgF_neg, sgF_neg]; exact K.2.1
  · rw [c3, c3, d3, d3, i3, i3, sgF_neg, sgF_neg, sgF_neg, sgF_neg]; exact K.2.2.1
  · rw [c4, c4, d4, d4, i4, i4, sgF_neg, sgF_neg, sgF_neg, sgF_neg]; exact K.2.2.2
end Go.Proofs.YtefdjdipbnnoaaaGreatDoor

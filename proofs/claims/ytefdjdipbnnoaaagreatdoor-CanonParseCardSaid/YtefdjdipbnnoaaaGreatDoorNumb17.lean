/-
  cncref17.numbers: any item.
-/
import Derived.Test.YtefdjdipbnnoaaaGreatDoorBase17
namespace Go.Proofs.YtefdjdipbnnoaaaGreatDoor
open Go Go.RowKit
set_option linter.unusedVariables false
set_option linter.unusedSimpArgs false

def numB (i : It) : Bool :=
  if i.kind = 5 then i.perRev
  else if i.kind = 6 then i.perRev && inK i.n 3 4
  else if i.kind = 7 then inK i.n 0 60000
  else if i.kind = 8 then inK i.n 3 5 && (inK i.speed 0 30000 && decide (i.n ≠ 5 ∨ i.speed = 0))
  else if i.kind = 9 then inK i.n 7 8
  else if i.kind = 10 then inK i.n 0 15
  else if i.kind = 11 then inK i.n 0 32
  else true
attribute [local go_sem] itA_0 itA_1 itA_2 itA_3 itA_4 itA_5 itA_6 itA_7 itA_8 itA_9 itA_10 itA_11 itA_12 itA_13 itA_14 itA_15 itA_16 itA_17 itA_18 itA_19 itA_20 itA_21
set_option maxRecDepth 100000 in
set_option maxHeartbeats 4000000 in
theorem numbers_any (i : It) (w : World) : Calls Tryz.prog 53 #[.agg (itA i)] w fun e w' => e = .returned (.bool (numB i)) ∧ Below w.heap.size w w' := by
  obtain ⟨sv, hsv⟩ : ∃ b, numB i = b := ⟨_, rfl⟩
  have HSV := Lib.hid hsv
  rw [hsv]
  clear hsv
  have I0 := ItAt.new w i
  have c0 := I0.c0
  have c15 := I0.c15
  have c19 := I0.c19
  have c20 := I0.c20
  have BEL := Lib.hid (show Below w.heap.size w (w.alloc (.cells (itA i) 25)) by (repeat (first | exact Below.refl _ _ | refine Below.drew ?_ | refine Below.alloc ?_ (by first | exact Nat.le_refl _ | (simp; done) | (simp; omega)) _ | refine Below.setCell ?_ (by first | exact Nat.le_refl _ | (simp; done) | (simp; omega)) _)))
  have hk : i.kind = 5 ∨ i.kind = 6 ∨ i.kind = 7 ∨ i.kind = 8 ∨ i.kind = 9 ∨ i.kind = 10 ∨ i.kind = 11 ∨ (i.kind < 5 ∨ 11 < i.kind) := by omega
  rcases hk with hk | hk | hk | hk | hk | hk | hk | hk
  · skip
    have k5 : (i.kind == 5) = true := by rw [hk]; rfl
    have k6 : (i.kind == 6) = false := by rw [hk]; rfl
    have k7 : (i.kind == 7) = false := by rw [hk]; rfl
    have k8 : (i.kind == 8) = false := by rw [hk]; rfl
    have k9 : (i.kind == 9) = false := by rw [hk]; rfl
    have k10 : (i.kind == 10) = false := by rw [hk]; rfl
    have k11 : (i.kind == 11) = false := by rw [hk]; rfl
    have EE : i.perRev = sv := by rw [← HSV.out]; unfold numB; rw [if_pos hk]
    clear hk HSV
    rw [EE] at c15
    go_enter Tryz.func53, Tryz.ntmps53
    go_wp2_with fail
    go_ret
    exact ⟨rfl, BEL.out⟩
  · skip
    have k5 : (i.kind == 5) = false := by rw [hk]; rfl
    have k6 : (i.kind == 6) = true := by rw [hk]; rfl
    have k7 : (i.kind == 7) = false := by rw [hk]; rfl
    have k8 : (i.kind == 8) = false := by rw [hk]; rfl
    have k9 : (i.kind == 9) = false := by rw [hk]; rfl
    have k10 : (i.kind == 10) = false := by rw [hk]; rfl
    have k11 : (i.kind == 11) = false := by rw [hk]; rfl
    have EE : (i.perRev && inK i.n 3 4) = sv := by rw [← HSV.out]; unfold numB; rw [if_neg (by omega), if_pos hk]
    clear hk HSV
    have K1 := Lib.hid (fun W => rin17_any i.n 3 4 W)
    obtain ⟨per, hper⟩ : ∃ b, i.perRev = b := ⟨_, rfl⟩
    obtain ⟨b1, hb1⟩ : ∃ b, inK i.n 3 4 = b := ⟨_, rfl⟩
    rw [hb1] at K1 EE
    rw [hper] at c15 EE
    clear hb1 hper
    subst EE
    go_enter Tryz.func53, Tryz.ntmps53
    cases per
    · go_wp2_with fail
      go_ret
      exact ⟨rfl, BEL.out⟩
    go_wp2_with fail
    refine (K1.out _).mono ?_
    rintro e w' ⟨rfl, rfl⟩
    go_wp2_with fail
    go_ret
    exact ⟨rfl, BEL.out⟩
  · skip
    have k5 : (i.kind == 5) = false := by rw [hk]; rfl
    have k6 : (i.kind == 6) = false := by rw [hk]; rfl
    have k7 : (i.kind == 7) = true := by rw [hk]; rfl
    have k8 : (i.kind == 8) = false := by rw [hk]; rfl
    have k9 : (i.kind == 9) = false := by rw [hk]; rfl
    have k10 : (i.kind == 10) = false := by rw [hk]; rfl
    have k11 : (i.kind == 11) = false := by rw [hk]; rfl
    have EE : inK i.n 0 60000 = sv := by rw [← HSV.out]; unfold numB; rw [if_neg (by omega), if_neg (by omega), if_pos hk]
    clear hk HSV
    have K1 := Lib.hid (fun W => rin17_any i.n 0 60000 W)
    rw [EE] at K1
    go_enter Tryz.func53, Tryz.ntmps53
    go_wp2_with fail
    refine (K1.out _).mono ?_
    rintro e w' ⟨rfl, rfl⟩
    go_wp2_with fail
    go_ret
    exact ⟨rfl, BEL.out⟩
  · skip
    have k5 : (i.kind == 5) = false := by rw [hk]; rfl
    have k6 : (i.kind == 6) = false := by rw [hk]; rfl
    have k7 : (i.kind == 7) = false := by rw [hk]; rfl
    have k8 : (i.kind == 8) = true := by rw [hk]; rfl
    have k9 : (i.kind == 9) = false := by rw [hk]; rfl
    have k10 : (i.kind == 10) = false := by rw [hk]; rfl
    have k11 : (i.kind == 11) = false := by rw [hk]; rfl
    have EE : (inK i.n 3 5 && (inK i.speed 0 30000 && decide (i.n ≠ 5 ∨ i.speed = 0))) = sv := by rw [← HSV.out]; unfold numB; rw [if_neg (by omega), if_neg (by omega), if_neg (by omega), if_pos hk]
    clear hk HSV
    have K1 := Lib.hid (fun W => rin17_any i.n 3 5 W)
    have K2 := Lib.hid (fun W => rin17_any i.speed 0 30000 W)
    obtain ⟨b1, hb1⟩ : ∃ b, inK i.n 3 5 = b := ⟨_, rfl⟩
    obtain ⟨b2, hb2⟩ : ∃ b, inK i.speed 0 30000 = b := ⟨_, rfl⟩
    rw [hb1] at K1 EE
    rw [hb2] at K2 EE
    clear hb1 hb2
    have EE := Lib.hid EE
    go_enter Tryz.func53, Tryz.ntmps53
    go_wp2_with fail
    refine (K1.out _).mono ?_
    rintro e w' ⟨rfl, rfl⟩
    cases b1
    · obtain rfl : false = sv := by rw [← EE.out]; rfl
      go_wp2_with fail
      go_ret
      exact ⟨rfl, BEL.out⟩
    go_wp2_with fail
    refine (K2.out _).mono ?_
    rintro e w' ⟨rfl, rfl⟩
    cases b2
    · obtain rfl : false = sv := by rw [← EE.out]; rfl
      go_wp2_with fail
      go_ret
      exact ⟨rfl, BEL.out⟩
    go_wp2_with fail
    all_goals
      go_ret
      exact ⟨ret_bool (by rw [← EE.out]; (rw [Bool.eq_iff_iff]; first | (simp; done) | (simp; omega) | (rw [Bool.eq_iff_iff]; simp only [Bool.or_eq_true, Bool.and_eq_true, Bool.not_eq_true', beq_iff_eq, beq_eq_false_iff_ne, bne_iff_ne, decide_eq_true_eq, decide_eq_false_iff_not, true_iff, iff_true, false_iff, iff_false, Bool.false_eq_true, true_and, and_true, false_and, and_false, true_or, or_true, false_or, or_false]; first | done | omega))), BEL.out⟩
  · skip
    have k5 : (i.kind == 5) = false := by rw [hk]; rfl
    have k6 : (i.kind == 6) = false := by rw [hk]; rfl
    have k7 : (i.kind == 7) = false := by rw [hk]; rfl
    have k8 : (i.kind == 8) = false := by rw [hk]; rfl
    have k9 : (i.kind == 9) = true := by rw [hk]; rfl
    have k10 : (i.kind == 10) = false := by rw [hk]; rfl
    have k11 : (i.kind == 11) = false := by rw [hk]; rfl
    have EE : inK i.n 7 8 = sv := by rw [← HSV.out]; unfold numB; rw [if_neg (by omega), if_neg (by omega), if_neg (by omega), if_neg (by omega), if_pos hk]
    clear hk HSV
    have K1 := Lib.hid (fun W => rin17_any i.n 7 8 W)
    rw [EE] at K1
    go_enter Tryz.func53, Tryz.ntmps53
    go_wp2_with fail
    refine (K1.out _).mono ?_
    rintro e w' ⟨rfl, rfl⟩
    go_wp2_with fail
    go_ret
    exact ⟨rfl, BEL.out⟩
  · skip
    have k5 : (i.kind == 5) = false := by rw [hk]; rfl
    have k6 : (i.kind == 6) = false := by rw [hk]; rfl
    have k7 : (i.kind == 7) = false := by rw [hk]; rfl
    have k8 : (i.kind == 8) = false := by rw [hk]; rfl
    have k9 : (i.kind == 9) = false := by rw [hk]; rfl
    have k10 : (i.kind == 10) = true := by rw [hk]; rfl
    have k11 : (i.kind == 11) = false := by rw [hk]; rfl
    have EE : inK i.n 0 15 = sv := by rw [← HSV.out]; unfold numB; rw [if_neg (by omega), if_neg (by omega), if_neg (by omega), if_neg (by omega), if_neg (by omega), if_pos hk]
    clear hk HSV
    have K1 := Lib.hid (fun W => rin17_any i.n 0 15 W)
    rw [EE] at K1
    go_enter Tryz.func53, Tryz.ntmps53
    go_wp2_with fail
    refine (K1.out _).mono ?_
    rintro e w' ⟨rfl, rfl⟩
    go_wp2_with fail
    go_ret
    exact ⟨rfl, BEL.out⟩
  · skip
    have k5 : (i.kind == 5) = false := by rw [hk]; rfl
    have k6 : (i.kind == 6) = false := by rw [hk]; rfl
    have k7 : (i.kind == 7) = false := by rw [hk]; rfl
    have k8 : (i.kind == 8) = false := by rw [hk]; rfl
    have k9 : (i.kind == 9) = false := by rw [hk]; rfl
    have k10 : (i.kind == 10) = false := by rw [hk]; rfl
    have k11 : (i.kind == 11) = true := by rw [hk]; rfl
    have EE : inK i.n 0 32 = sv := by rw [← HSV.out]; unfold numB; rw [if_neg (by omega), if_neg (by omega), if_neg (by omega), if_neg (by omega), if_neg (by omega), if_neg (by omega), if_pos hk]
    clear hk HSV
    have K1 := Lib.hid (fun W => rin17_any i.n 0 32 W)
    rw [EE] at K1
    go_enter Tryz.func53, Tryz.ntmps53
    go_wp2_with fail
    refine (K1.out _).mono ?_
    rintro e w' ⟨rfl, rfl⟩
    go_wp2_with fail
    go_ret
    exact ⟨rfl, BEL.out⟩
  · skip
    have k5 : (i.kind == 5) = false := by simp; omega
    have k6 : (i.kind == 6) = false := by simp; omega
    have k7 : (i.kind == 7) = false := by simp; omega
    have k8 : (i.kind == 8) = false := by simp; omega
    have k9 : (i.kind == 9) = false := by simp; omega
    have k10 : (i.kind == 10) = false := by simp; omega
    have k11 : (i.kind == 11) = false := by simp; omega
    have EE : true = sv := by rw [← HSV.out]; unfold numB; rw [if_neg (by omega), if_neg (by omega), if_neg (by omega), if_neg (by omega), if_neg (by omega), if_neg (by omega), if_neg (by omega)]
    clear hk HSV
    subst EE
    go_enter Tryz.func53, Tryz.ntmps53
    go_wp2_with fail
    go_ret
    exact ⟨rfl, BEL.out⟩
end Go.Proofs.YtefdjdipbnnoaaaGreatDoor

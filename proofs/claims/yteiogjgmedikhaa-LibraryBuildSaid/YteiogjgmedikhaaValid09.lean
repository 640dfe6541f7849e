/-
  syntax.Valid.
-/
import Derived.Test.YteiogjgmedikhaaWorded09
namespace Go.Proofs.Yteiogjgmedikhaa
open Go Go.RowKit
set_option linter.unusedVariables false

set_option maxRecDepth 100000 in
set_option maxHeartbeats 1000000 in
theorem valid1_any (lab n : Int) (sk : Bool) (lf x : Ex) (p : Place) (w : World) (h : BlkAt w ⟨1, lab, sk, [], lf, x, n⟩ p) (hl : 0 ≤ lab ∧ lab ≤ 99999) :
    Calls Try.prog 38 #[.agg #[.int .i64 1, .int .i64 lab, .bool sk, .slice p.words 0 p.cap, .int .i64 lf.op, .int .i64 lf.n, .slice p.left.a lf.kids.length p.left.cap, .int .i64 x.op, .int .i64 x.n, .slice p.x.a x.kids.length p.x.cap, .int .i64 n]] w fun e w' => e = .returned (.bool (validB ⟨1, lab, sk, [], lf, x, n⟩)) ∧ Below w.heap.size w w' := by
  have e1 : decide (lab < 0) = false := decide_eq_false (by omega)
  have e2 : decide (99999 < lab) = false := decide_eq_false (by omega)
  have KL := Lib.hid (fun W (hb : Below w.heap.size w W) => right16_any lf p.left.a p.left.cap W (h.left.under hb))
  have KX := Lib.hid (fun W (hb : Below w.heap.size w W) => right16_any x p.x.a p.x.cap W (h.x.under hb))
  have HV : validB ⟨1, lab, sk, [], lf, x, n⟩ = (rightE 16 lf && rightE 16 x && decide (n = 0)) := by
    have hlab : ¬ (lab < 0 ∨ 99999 < lab ∨ 24 < ([] : List WordL).length) := by simp; omega
    unfold validB
    simp only
    rw [if_neg hlab]
    cases rightE 16 lf <;> cases rightE 16 x <;> simp
  have HV := Lib.hid HV
  have K0 := Lib.hid (Keeps.new (Below.refl w.heap.size w) (Nat.le_refl _) 37 #[.int .i64 1, .int .i64 lab, .bool sk, .slice p.words 0 p.cap, .int .i64 lf.op, .int .i64 lf.n, .slice p.left.a lf.kids.length p.left.cap, .int .i64 x.op, .int .i64 x.n, .slice p.x.a x.kids.length p.x.cap, .int .i64 n])
  clear h
  go_enter Try.func38, Try.ntmps38
  go_wp2_with fail
  refine (KL.out _ K0.out.bel).mono ?_
  rintro e w1 ⟨rfl, b1⟩
  have K1 := Lib.hid (K0.out.below b1)
  have f7 := K1.out.blk.cell 7
  have f8 := K1.out.blk.cell 8
  have f9 := K1.out.blk.cell 9
  have f10 := K1.out.blk.cell 10
  clear b1 K0
  cases hr1 : rightE 16 lf with
  | false =>
    have HF := Lib.hid (show validB ⟨1, lab, sk, [], lf, x, n⟩ = false by rw [HV.out, hr1]; rfl)
    go_wp2_with fail
    go_ret
    exact ⟨by rw [HF.out]; rfl, K1.out.bel⟩
  | true =>
    have HR1 := Lib.hid hr1
    clear hr1
    go_wp2_with fail
    refine (KX.out _ K1.out.bel).mono ?_
    rintro e w2 ⟨rfl, b2⟩
    have K2 := Lib.hid (K1.out.below b2)
    have f10 := K2.out.blk.cell 10
    clear b2 f7 f8 f9 K1
    cases hr2 : rightE 16 x with
    | false =>
      have HF := Lib.hid (show validB ⟨1, lab, sk, [], lf, x, n⟩ = false by rw [HV.out, hr2, Bool.and_false]; rfl)
      go_wp2_with fail
      go_ret
      exact ⟨by rw [HF.out]; rfl, K2.out.bel⟩
    | true =>
      have hr1 := HR1.out
      by_cases hn : n = 0
      · have HF := Lib.hid (show validB ⟨1, lab, sk, [], lf, x, n⟩ = true by rw [HV.out, hr1, hr2, decide_eq_true hn]; rfl)
        subst hn
        go_wp2_with fail
        go_ret
        exact ⟨by rw [HF.out]; rfl, K2.out.bel⟩
      · have HF := Lib.hid (show validB ⟨1, lab, sk, [], lf, x, n⟩ = false by rw [HV.out, hr1, hr2, decide_eq_false hn]; rfl)
        have g0 : (n == 0) = false := by simpa using hn
        by_cases g : 1 ≤ n
        · have g1 : decide (1 ≤ n) = true := decide_eq_true g
          have g2 : decide (n ≤ 0) = false := decide_eq_false (by omega)
          clear hn g
          go_wp2_with fail
          go_ret
          exact ⟨by rw [HF.out]; rfl, K2.out.bel⟩
        · have g1 : decide (1 ≤ n) = false := decide_eq_false g
          clear hn g
          go_wp2_with fail
          go_ret
          exact ⟨by rw [HF.out]; rfl, K2.out.bel⟩

set_option maxRecDepth 100000 in
set_option maxHeartbeats 1000000 in
theorem valid2_any (lab n : Int) (sk : Bool) (lf x : Ex) (p : Place) (w : World) (h : BlkAt w ⟨2, lab, sk, [], lf, x, n⟩ p) (hl : 0 ≤ lab ∧ lab ≤ 99999) :
    Calls Try.prog 38 #[.agg #[.int .i64 2, .int .i64 lab, .bool sk, .slice p.words 0 p.cap, .int .i64 lf.op, .int .i64 lf.n, .slice p.left.a lf.kids.length p.left.cap, .int .i64 x.op, .int .i64 x.n, .slice p.x.a x.kids.length p.x.cap, .int .i64 n]] w fun e w' => e = .returned (.bool (validB ⟨2, lab, sk, [], lf, x, n⟩)) ∧ Below w.heap.size w w' := by
  have e1 : decide (lab < 0) = false := decide_eq_false (by omega)
  have e2 : decide (99999 < lab) = false := decide_eq_false (by omega)
  have KL := Lib.hid (fun W (hb : Below w.heap.size w W) => zero_any lf p.left.a p.left.cap W)
  have KX := Lib.hid (fun W (hb : Below w.heap.size w W) => right16_any x p.x.a p.x.cap W (h.x.under hb))
  have HV : validB ⟨2, lab, sk, [], lf, x, n⟩ = (zeroE lf && rightE 16 x && decide (n = 0)) := by
    have hlab : ¬ (lab < 0 ∨ 99999 < lab ∨ 24 < ([] : List WordL).length) := by simp; omega
    unfold validB
    simp only
    rw [if_neg hlab]
    cases zeroE lf <;> cases rightE 16 x <;> simp
  have HV := Lib.hid HV
  have K0 := Lib.hid (Keeps.new (Below.refl w.heap.size w) (Nat.le_refl _) 37 #[.int .i64 2, .int .i64 lab, .bool sk, .slice p.words 0 p.cap, .int .i64 lf.op, .int .i64 lf.n, .slice p.left.a lf.kids.length p.left.cap, .int .i64 x.op, .int .i64 x.n, .slice p.x.a x.kids.length p.x.cap, .int .i64 n])
  clear h
  go_enter Try.func38, Try.ntmps38
  go_wp2_with fail
  refine (KL.out _ K0.out.bel).mono ?_
  rintro e w1 ⟨rfl, b1⟩
  have K1 := Lib.hid (K0.out.below b1)
  have f7 := K1.out.blk.cell 7
  have f8 := K1.out.blk.cell 8
  have f9 := K1.out.blk.cell 9
  have f10 := K1.out.blk.cell 10
  clear b1 K0
  cases hr1 : zeroE lf with
  | false =>
    have HF := Lib.hid (show validB ⟨2, lab, sk, [], lf, x, n⟩ = false by rw [HV.out, hr1]; rfl)
    go_wp2_with fail
    go_ret
    exact ⟨by rw [HF.out]; rfl, K1.out.bel⟩
  | true =>
    have HR1 := Lib.hid hr1
    clear hr1
    go_wp2_with fail
    refine (KX.out _ K1.out.bel).mono ?_
    rintro e w2 ⟨rfl, b2⟩
    have K2 := Lib.hid (K1.out.below b2)
    have f10 := K2.out.blk.cell 10
    clear b2 f7 f8 f9 K1
    cases hr2 : rightE 16 x with
    | false =>
      have HF := Lib.hid (show validB ⟨2, lab, sk, [], lf, x, n⟩ = false by rw [HV.out, hr2, Bool.and_false]; rfl)
      go_wp2_with fail
      go_ret
      exact ⟨by rw [HF.out]; rfl, K2.out.bel⟩
    | true =>
      have hr1 := HR1.out
      by_cases hn : n = 0
      · have HF := Lib.hid (show validB ⟨2, lab, sk, [], lf, x, n⟩ = true by rw [HV.out, hr1, hr2, decide_eq_true hn]; rfl)
        subst hn
        go_wp2_with fail
        go_ret
        exact ⟨by rw [HF.out]; rfl, K2.out.bel⟩
      · have HF := Lib.hid (show validB ⟨2, lab, sk, [], lf, x, n⟩ = false by rw [HV.out, hr1, hr2, decide_eq_false hn]; rfl)
        have g0 : (n == 0) = false := by simpa using hn
        by_cases g : 1 ≤ n
        · have g1 : decide (1 ≤ n) = true := decide_eq_true g
          have g2 : decide (n ≤ 0) = false := decide_eq_false (by omega)
          clear hn g
          go_wp2_with fail
          go_ret
          exact ⟨by rw [HF.out]; rfl, K2.out.bel⟩
        · have g1 : decide (1 ≤ n) = false := decide_eq_false g
          clear hn g
          go_wp2_with fail
          go_ret
          exact ⟨by rw [HF.out]; rfl, K2.out.bel⟩

set_option maxRecDepth 100000 in
set_option maxHeartbeats 1000000 in
theorem valid3_any (lab n : Int) (sk : Bool) (lf x : Ex) (p : Place) (w : World) (h : BlkAt w ⟨3, lab, sk, [], lf, x, n⟩ p) (hl : 0 ≤ lab ∧ lab ≤ 99999) :
    Calls Try.prog 38 #[.agg #[.int .i64 3, .int .i64 lab, .bool sk, .slice p.words 0 p.cap, .int .i64 lf.op, .int .i64 lf.n, .slice p.left.a lf.kids.length p.left.cap, .int .i64 x.op, .int .i64 x.n, .slice p.x.a x.kids.length p.x.cap, .int .i64 n]] w fun e w' => e = .returned (.bool (validB ⟨3, lab, sk, [], lf, x, n⟩)) ∧ Below w.heap.size w w' := by
  have e1 : decide (lab < 0) = false := decide_eq_false (by omega)
  have e2 : decide (99999 < lab) = false := decide_eq_false (by omega)
  have KL := Lib.hid (fun W (hb : Below w.heap.size w W) => right16_any lf p.left.a p.left.cap W (h.left.under hb))
  have KX := Lib.hid (fun W (hb : Below w.heap.size w W) => right16_any x p.x.a p.x.cap W (h.x.under hb))
  have HV : validB ⟨3, lab, sk, [], lf, x, n⟩ = (rightE 16 lf && rightE 16 x && decide (n = 0)) := by
    have hlab : ¬ (lab < 0 ∨ 99999 < lab ∨ 24 < ([] : List WordL).length) := by simp; omega
    unfold validB
    simp only
    rw [if_neg hlab]
    cases rightE 16 lf <;> cases rightE 16 x <;> simp
  have HV := Lib.hid HV
  have K0 := Lib.hid (Keeps.new (Below.refl w.heap.size w) (Nat.le_refl _) 37 #[.int .i64 3, .int .i64 lab, .bool sk, .slice p.words 0 p.cap, .int .i64 lf.op, .int .i64 lf.n, .slice p.left.a lf.kids.length p.left.cap, .int .i64 x.op, .int .i64 x.n, .slice p.x.a x.kids.length p.x.cap, .int .i64 n])
  clear h
  go_enter Try.func38, Try.ntmps38
  go_wp2_with fail
  refine (KL.out _ K0.out.bel).mono ?_
  rintro e w1 ⟨rfl, b1⟩
  have K1 := Lib.hid (K0.out.below b1)
  have f7 := K1.out.blk.cell 7
  have f8 := K1.out.blk.cell 8
  have f9 := K1.out.blk.cell 9
  have f10 := K1.out.blk.cell 10
  clear b1 K0
  cases hr1 : rightE 16 lf with
  | false =>
    have HF := Lib.hid (show validB ⟨3, lab, sk, [], lf, x, n⟩ = false by rw [HV.out, hr1]; rfl)
    go_wp2_with fail
    go_ret
    exact ⟨by rw [HF.out]; rfl, K1.out.bel⟩
  | true =>
    have HR1 := Lib.hid hr1
    clear hr1
    go_wp2_with fail
    refine (KX.out _ K1.out.bel).mono ?_
    rintro e w2 ⟨rfl, b2⟩
    have K2 := Lib.hid (K1.out.below b2)
    have f10 := K2.out.blk.cell 10
    clear b2 f7 f8 f9 K1
    cases hr2 : rightE 16 x with
    | false =>
      have HF := Lib.hid (show validB ⟨3, lab, sk, [], lf, x, n⟩ = false by rw [HV.out, hr2, Bool.and_false]; rfl)
      go_wp2_with fail
      go_ret
      exact ⟨by rw [HF.out]; rfl, K2.out.bel⟩
    | true =>
      have hr1 := HR1.out
      by_cases hn : n = 0
      · have HF := Lib.hid (show validB ⟨3, lab, sk, [], lf, x, n⟩ = true by rw [HV.out, hr1, hr2, decide_eq_true hn]; rfl)
        subst hn
        go_wp2_with fail
        go_ret
        exact ⟨by rw [HF.out]; rfl, K2.out.bel⟩
      · have HF := Lib.hid (show validB ⟨3, lab, sk, [], lf, x, n⟩ = false by rw [HV.out, hr1, hr2, decide_eq_false hn]; rfl)
        have g0 : (n == 0) = false := by simpa using hn
        by_cases g : 1 ≤ n
        · have g1 : decide (1 ≤ n) = true := decide_eq_true g
          have g2 : decide (n ≤ 0) = false := decide_eq_false (by omega)
          clear hn g
          go_wp2_with fail
          go_ret
          exact ⟨by rw [HF.out]; rfl, K2.out.bel⟩
        · have g1 : decide (1 ≤ n) = false := decide_eq_false g
          clear hn g
          go_wp2_with fail
          go_ret
          exact ⟨by rw [HF.out]; rfl, K2.out.bel⟩

set_option maxRecDepth 100000 in
set_option maxHeartbeats 1000000 in
theorem valid4_any (lab n : Int) (sk : Bool) (lf x : Ex) (p : Place) (w : World) (h : BlkAt w ⟨4, lab, sk, [], lf, x, n⟩ p) (hl : 0 ≤ lab ∧ lab ≤ 99999) :
    Calls Try.prog 38 #[.agg #[.int .i64 4, .int .i64 lab, .bool sk, .slice p.words 0 p.cap, .int .i64 lf.op, .int .i64 lf.n, .slice p.left.a lf.kids.length p.left.cap, .int .i64 x.op, .int .i64 x.n, .slice p.x.a x.kids.length p.x.cap, .int .i64 n]] w fun e w' => e = .returned (.bool (validB ⟨4, lab, sk, [], lf, x, n⟩)) ∧ Below w.heap.size w w' := by
  have e1 : decide (lab < 0) = false := decide_eq_false (by omega)
  have e2 : decide (99999 < lab) = false := decide_eq_false (by omega)
  have KL := Lib.hid (fun W (hb : Below w.heap.size w W) => zero_any lf p.left.a p.left.cap W)
  have KX := Lib.hid (fun W (hb : Below w.heap.size w W) => right16_any x p.x.a p.x.cap W (h.x.under hb))
  have HV : validB ⟨4, lab, sk, [], lf, x, n⟩ = (zeroE lf && rightE 16 x && decide (1 ≤ n ∧ n ≤ 3)) := by
    have hlab : ¬ (lab < 0 ∨ 99999 < lab ∨ 24 < ([] : List WordL).length) := by simp; omega
    unfold validB
    simp only
    rw [if_neg hlab]
    cases zeroE lf <;> cases rightE 16 x <;> simp
  have HV := Lib.hid HV
  have K0 := Lib.hid (Keeps.new (Below.refl w.heap.size w) (Nat.le_refl _) 37 #[.int .i64 4, .int .i64 lab, .bool sk, .slice p.words 0 p.cap, .int .i64 lf.op, .int .i64 lf.n, .slice p.left.a lf.kids.length p.left.cap, .int .i64 x.op, .int .i64 x.n, .slice p.x.a x.kids.length p.x.cap, .int .i64 n])
  clear h
  go_enter Try.func38, Try.ntmps38
  go_wp2_with fail
  refine (KL.out _ K0.out.bel).mono ?_
  rintro e w1 ⟨rfl, b1⟩
  have K1 := Lib.hid (K0.out.below b1)
  have f7 := K1.out.blk.cell 7
  have f8 := K1.out.blk.cell 8
  have f9 := K1.out.blk.cell 9
  have f10 := K1.out.blk.cell 10
  clear b1 K0
  cases hr1 : zeroE lf with
  | false =>
    have HF := Lib.hid (show validB ⟨4, lab, sk, [], lf, x, n⟩ = false by rw [HV.out, hr1]; rfl)
    go_wp2_with fail
    go_ret
    exact ⟨by rw [HF.out]; rfl, K1.out.bel⟩
  | true =>
    have HR1 := Lib.hid hr1
    clear hr1
    go_wp2_with fail
    refine (KX.out _ K1.out.bel).mono ?_
    rintro e w2 ⟨rfl, b2⟩
    have K2 := Lib.hid (K1.out.below b2)
    have f10 := K2.out.blk.cell 10
    clear b2 f7 f8 f9 K1
    cases hr2 : rightE 16 x with
    | false =>
      have HF := Lib.hid (show validB ⟨4, lab, sk, [], lf, x, n⟩ = false by rw [HV.out, hr2, Bool.and_false]; rfl)
      go_wp2_with fail
      go_ret
      exact ⟨by rw [HF.out]; rfl, K2.out.bel⟩
    | true =>
      have hr1 := HR1.out
      by_cases hn : 1 ≤ n ∧ n ≤ 3
      · have HF := Lib.hid (show validB ⟨4, lab, sk, [], lf, x, n⟩ = true by rw [HV.out, hr1, hr2, decide_eq_true hn]; rfl)
        have g1 : decide (1 ≤ n) = true := decide_eq_true hn.1
        have g2 : decide (n ≤ 3) = true := decide_eq_true hn.2
        clear hn
        go_wp2_with fail
        go_ret
        exact ⟨by rw [HF.out]; rfl, K2.out.bel⟩
      · have HF := Lib.hid (show validB ⟨4, lab, sk, [], lf, x, n⟩ = false by rw [HV.out, hr1, hr2, decide_eq_false hn]; rfl)
        by_cases g : 1 ≤ n
        · have g1 : decide (1 ≤ n) = true := decide_eq_true g
          have g2 : decide (n ≤ 3) = false := decide_eq_false (by omega)
          clear hn g
          go_wp2_with fail
          go_ret
          exact ⟨by rw [HF.out]; rfl, K2.out.bel⟩
        · have g1 : decide (1 ≤ n) = false := decide_eq_false g
          clear hn g
          go_wp2_with fail
          go_ret
          exact ⟨by rw [HF.out]; rfl, K2.out.bel⟩

set_option maxRecDepth 100000 in
set_option maxHeartbeats 1000000 in
theorem valid5_any (lab n : Int) (sk : Bool) (lf x : Ex) (p : Place) (w : World) (h : BlkAt w ⟨5, lab, sk, [], lf, x, n⟩ p) (hl : 0 ≤ lab ∧ lab ≤ 99999) :
    Calls Try.prog 38 #[.agg #[.int .i64 5, .int .i64 lab, .bool sk, .slice p.words 0 p.cap, .int .i64 lf.op, .int .i64 lf.n, .slice p.left.a lf.kids.length p.left.cap, .int .i64 x.op, .int .i64 x.n, .slice p.x.a x.kids.length p.x.cap, .int .i64 n]] w fun e w' => e = .returned (.bool (validB ⟨5, lab, sk, [], lf, x, n⟩)) ∧ Below w.heap.size w w' := by
  have e1 : decide (lab < 0) = false := decide_eq_false (by omega)
  have e2 : decide (99999 < lab) = false := decide_eq_false (by omega)
  have KL := Lib.hid (fun W (hb : Below w.heap.size w W) => zero_any lf p.left.a p.left.cap W)
  have KX := Lib.hid (fun W (hb : Below w.heap.size w W) => zero_any x p.x.a p.x.cap W)
  have HV : validB ⟨5, lab, sk, [], lf, x, n⟩ = (zeroE lf && zeroE x && decide (1 ≤ n ∧ n ≤ 3)) := by
    have hlab : ¬ (lab < 0 ∨ 99999 < lab ∨ 24 < ([] : List WordL).length) := by simp; omega
    unfold validB
    simp only
    rw [if_neg hlab]
    cases zeroE lf <;> cases zeroE x <;> simp
  have HV := Lib.hid HV
  have K0 := Lib.hid (Keeps.new (Below.refl w.heap.size w) (Nat.le_refl _) 37 #[.int .i64 5, .int .i64 lab, .bool sk, .slice p.words 0 p.cap, .int .i64 lf.op, .int .i64 lf.n, .slice p.left.a lf.kids.length p.left.cap, .int .i64 x.op, .int .i64 x.n, .slice p.x.a x.kids.length p.x.cap, .int .i64 n])
  clear h
  go_enter Try.func38, Try.ntmps38
  go_wp2_with fail
  refine (KL.out _ K0.out.bel).mono ?_
  rintro e w1 ⟨rfl, b1⟩
  have K1 := Lib.hid (K0.out.below b1)
  have f7 := K1.out.blk.cell 7
  have f8 := K1.out.blk.cell 8
  have f9 := K1.out.blk.cell 9
  have f10 := K1.out.blk.cell 10
  clear b1 K0
  cases hr1 : zeroE lf with
  | false =>
    have HF := Lib.hid (show validB ⟨5, lab, sk, [], lf, x, n⟩ = false by rw [HV.out, hr1]; rfl)
    go_wp2_with fail
    go_ret
    exact ⟨by rw [HF.out]; rfl, K1.out.bel⟩
  | true =>
    have HR1 := Lib.hid hr1
    clear hr1
    go_wp2_with fail
    refine (KX.out _ K1.out.bel).mono ?_
    rintro e w2 ⟨rfl, b2⟩
    have K2 := Lib.hid (K1.out.below b2)
    have f10 := K2.out.blk.cell 10
    clear b2 f7 f8 f9 K1
    cases hr2 : zeroE x with
    | false =>
      have HF := Lib.hid (show validB ⟨5, lab, sk, [], lf, x, n⟩ = false by rw [HV.out, hr2, Bool.and_false]; rfl)
      go_wp2_with fail
      go_ret
      exact ⟨by rw [HF.out]; rfl, K2.out.bel⟩
    | true =>
      have hr1 := HR1.out
      by_cases hn : 1 ≤ n ∧ n ≤ 3
      · have HF := Lib.hid (show validB ⟨5, lab, sk, [], lf, x, n⟩ = true by rw [HV.out, hr1, hr2, decide_eq_true hn]; rfl)
        have g1 : decide (1 ≤ n) = true := decide_eq_true hn.1
        have g2 : decide (n ≤ 3) = true := decide_eq_true hn.2
        clear hn
        go_wp2_with fail
        go_ret
        exact ⟨by rw [HF.out]; rfl, K2.out.bel⟩
      · have HF := Lib.hid (show validB ⟨5, lab, sk, [], lf, x, n⟩ = false by rw [HV.out, hr1, hr2, decide_eq_false hn]; rfl)
        by_cases g : 1 ≤ n
        · have g1 : decide (1 ≤ n) = true := decide_eq_true g
          have g2 : decide (n ≤ 3) = false := decide_eq_false (by omega)
          clear hn g
          go_wp2_with fail
          go_ret
          exact ⟨by rw [HF.out]; rfl, K2.out.bel⟩
        · have g1 : decide (1 ≤ n) = false := decide_eq_false g
          clear hn g
          go_wp2_with fail
          go_ret
          exact ⟨by rw [HF.out]; rfl, K2.out.bel⟩

set_option maxRecDepth 100000 in
set_option maxHeartbeats 1000000 in
theorem valid6_any (lab n : Int) (sk : Bool) (lf x : Ex) (p : Place) (w : World) (h : BlkAt w ⟨6, lab, sk, [], lf, x, n⟩ p) (hl : 0 ≤ lab ∧ lab ≤ 99999) :
    Calls Try.prog 38 #[.agg #[.int .i64 6, .int .i64 lab, .bool sk, .slice p.words 0 p.cap, .int .i64 lf.op, .int .i64 lf.n, .slice p.left.a lf.kids.length p.left.cap, .int .i64 x.op, .int .i64 x.n, .slice p.x.a x.kids.length p.x.cap, .int .i64 n]] w fun e w' => e = .returned (.bool (validB ⟨6, lab, sk, [], lf, x, n⟩)) ∧ Below w.heap.size w w' := by
  have e1 : decide (lab < 0) = false := decide_eq_false (by omega)
  have e2 : decide (99999 < lab) = false := decide_eq_false (by omega)
  have KL := Lib.hid (fun W (hb : Below w.heap.size w W) => zero_any lf p.left.a p.left.cap W)
  have KX := Lib.hid (fun W (hb : Below w.heap.size w W) => zero_any x p.x.a p.x.cap W)
  have HV : validB ⟨6, lab, sk, [], lf, x, n⟩ = (zeroE lf && zeroE x && decide (1 ≤ n ∧ n ≤ 99999)) := by
    have hlab : ¬ (lab < 0 ∨ 99999 < lab ∨ 24 < ([] : List WordL).length) := by simp; omega
    unfold validB
    simp only
    rw [if_neg hlab]
    cases zeroE lf <;> cases zeroE x <;> simp
  have HV := Lib.hid HV
  have K0 := Lib.hid (Keeps.new (Below.refl w.heap.size w) (Nat.le_refl _) 37 #[.int .i64 6, .int .i64 lab, .bool sk, .slice p.words 0 p.cap, .int .i64 lf.op, .int .i64 lf.n, .slice p.left.a lf.kids.length p.left.cap, .int .i64 x.op, .int .i64 x.n, .slice p.x.a x.kids.length p.x.cap, .int .i64 n])
  clear h
  go_enter Try.func38, Try.ntmps38
  go_wp2_with fail
  refine (KL.out _ K0.out.bel).mono ?_
  rintro e w1 ⟨rfl, b1⟩
  have K1 := Lib.hid (K0.out.below b1)
  have f7 := K1.out.blk.cell 7
  have f8 := K1.out.blk.cell 8
  have f9 := K1.out.blk.cell 9
  have f10 := K1.out.blk.cell 10
  clear b1 K0
  cases hr1 : zeroE lf with
  | false =>
    have HF := Lib.hid (show validB ⟨6, lab, sk, [], lf, x, n⟩ = false by rw [HV.out, hr1]; rfl)
    go_wp2_with fail
    go_ret
    exact ⟨by rw [HF.out]; rfl, K1.out.bel⟩
  | true =>
    have HR1 := Lib.hid hr1
    clear hr1
    go_wp2_with fail
    refine (KX.out _ K1.out.bel).mono ?_
    rintro e w2 ⟨rfl, b2⟩
    have K2 := Lib.hid (K1.out.below b2)
    have f10 := K2.out.blk.cell 10
    clear b2 f7 f8 f9 K1
    cases hr2 : zeroE x with
    | false =>
      have HF := Lib.hid (show validB ⟨6, lab, sk, [], lf, x, n⟩ = false by rw [HV.out, hr2, Bool.and_false]; rfl)
      go_wp2_with fail
      go_ret
      exact ⟨by rw [HF.out]; rfl, K2.out.bel⟩
    | true =>
      have hr1 := HR1.out
      by_cases hn : 1 ≤ n ∧ n ≤ 99999
      · have HF := Lib.hid (show validB ⟨6, lab, sk, [], lf, x, n⟩ = true by rw [HV.out, hr1, hr2, decide_eq_true hn]; rfl)
        have g1 : decide (1 ≤ n) = true := decide_eq_true hn.1
        have g2 : decide (n ≤ 99999) = true := decide_eq_true hn.2
        clear hn
        go_wp2_with fail
        go_ret
        exact ⟨by rw [HF.out]; rfl, K2.out.bel⟩
      · have HF := Lib.hid (show validB ⟨6, lab, sk, [], lf, x, n⟩ = false by rw [HV.out, hr1, hr2, decide_eq_false hn]; rfl)
        by_cases g : 1 ≤ n
        · have g1 : decide (1 ≤ n) = true := decide_eq_true g
          have g2 : decide (n ≤ 99999) = false := decide_eq_false (by omega)
          clear hn g
          go_wp2_with fail
          go_ret
          exact ⟨by rw [HF.out]; rfl, K2.out.bel⟩
        · have g1 : decide (1 ≤ n) = false := decide_eq_false g
          clear hn g
          go_wp2_with fail
          go_ret
          exact ⟨by rw [HF.out]; rfl, K2.out.bel⟩

set_option maxRecDepth 100000 in
set_option maxHeartbeats 1000000 in
theorem valid0_any (lab n : Int) (sk : Bool) (ws : List WordL) (lf x : Ex) (p : Place) (w : World) (h : BlkAt w ⟨0, lab, sk, ws, lf, x, n⟩ p) (hl : 0 ≤ lab ∧ lab ≤ 99999) (hw : ws.length ≤ 24) :
    Calls Try.prog 38 #[.agg #[.int .i64 0, .int .i64 lab, .bool sk, .slice p.words ws.length p.cap, .int .i64 lf.op, .int .i64 lf.n, .slice p.left.a lf.kids.length p.left.cap, .int .i64 x.op, .int .i64 x.n, .slice p.x.a x.kids.length p.x.cap, .int .i64 n]] w fun e w' => e = .returned (.bool (validB ⟨0, lab, sk, ws, lf, x, n⟩)) ∧ Below w.heap.size w w' := by
  have e1 : decide (lab < 0) = false := decide_eq_false (by omega)
  have e2 : decide (99999 < lab) = false := decide_eq_false (by omega)
  have e3 : decide (24 < (ws.length : Int)) = false := decide_eq_false (by omega)
  have KL := Lib.hid (fun W (hb : Below w.heap.size w W) => zero_any lf p.left.a p.left.cap W)
  have KX := Lib.hid (fun W (hb : Below w.heap.size w W) => zero_any x p.x.a p.x.cap W)
  have KW := Lib.hid (fun W (hb : Below w.heap.size w W) => worded_any ws p.words p.cap p.k W (h.words.under hb) (by omega))
  have HV : validB ⟨0, lab, sk, ws, lf, x, n⟩ = (zeroE lf && zeroE x && decide (n = 0) && ws.all wordB) := by
    have hlab : ¬ (lab < 0 ∨ 99999 < lab ∨ 24 < ws.length) := by omega
    unfold validB
    simp only
    rw [if_neg hlab, if_pos trivial]
  have HV := Lib.hid HV
  have K0 := Lib.hid (Keeps.new (Below.refl w.heap.size w) (Nat.le_refl _) 37 #[.int .i64 0, .int .i64 lab, .bool sk, .slice p.words ws.length p.cap, .int .i64 lf.op, .int .i64 lf.n, .slice p.left.a lf.kids.length p.left.cap, .int .i64 x.op, .int .i64 x.n, .slice p.x.a x.kids.length p.x.cap, .int .i64 n])
  clear h hl hw
  go_enter Try.func38, Try.ntmps38
  go_wp2_with fail
  refine (KL.out _ K0.out.bel).mono ?_
  rintro e w1 ⟨rfl, b1⟩
  have K1 := Lib.hid (K0.out.below b1)
  have f3 := K1.out.blk.cell 3
  have f7 := K1.out.blk.cell 7
  have f8 := K1.out.blk.cell 8
  have f9 := K1.out.blk.cell 9
  have f10 := K1.out.blk.cell 10
  clear b1 K0
  cases hr1 : zeroE lf with
  | false =>
    have HF := Lib.hid (show validB ⟨0, lab, sk, ws, lf, x, n⟩ = false by rw [HV.out, hr1]; rfl)
    go_wp2_with fail
    go_ret
    exact ⟨by rw [HF.out]; rfl, K1.out.bel⟩
  | true =>
    have HR1 := Lib.hid hr1
    clear hr1
    go_wp2_with fail
    refine (KX.out _ K1.out.bel).mono ?_
    rintro e w2 ⟨rfl, b2⟩
    have K2 := Lib.hid (K1.out.below b2)
    have f3 := K2.out.blk.cell 3
    have f10 := K2.out.blk.cell 10
    clear b2 f7 f8 f9 K1
    cases hr2 : zeroE x with
    | false =>
      have HF := Lib.hid (show validB ⟨0, lab, sk, ws, lf, x, n⟩ = false by rw [HV.out, hr2, Bool.and_false]; rfl)
      go_wp2_with fail
      go_ret
      exact ⟨by rw [HF.out]; rfl, K2.out.bel⟩
    | true =>
      have hr1 := HR1.out
      by_cases hn : n = 0
      · have HF := Lib.hid (show validB ⟨0, lab, sk, ws, lf, x, n⟩ = ws.all wordB by rw [HV.out, hr1, hr2, decide_eq_true hn]; rfl)
        subst hn
        clear hr1 hr2
        go_wp2_with fail
        refine (KW.out _ K2.out.bel).mono ?_
        rintro e w3 ⟨rfl, b3⟩
        have K3 := Lib.hid (K2.out.below b3)
        clear b3 f3 f10
        generalize ws.all wordB = r at *
        go_wp2_with fail
        go_ret
        exact ⟨by rw [HF.out]; rfl, K3.out.bel⟩
      · have HF := Lib.hid (show validB ⟨0, lab, sk, ws, lf, x, n⟩ = false by rw [HV.out, hr1, hr2, decide_eq_false hn]; rfl)
        have g0 : (n == 0) = false := by simpa using hn
        clear hr1 hr2
        go_wp2_with fail
        go_ret
        exact ⟨by rw [HF.out]; rfl, K2.out.bel⟩

set_option maxRecDepth 100000 in
set_option maxHeartbeats 1000000 in
theorem valid_bad (kd lab n : Int) (sk : Bool) (nw : Nat) (lf x : Ex) (p : Place) (w : World) (hl : lab < 0 ∨ 99999 < lab ∨ 24 < nw) :
    Calls Try.prog 38 #[.agg #[.int .i64 kd, .int .i64 lab, .bool sk, .slice p.words nw p.cap, .int .i64 lf.op, .int .i64 lf.n, .slice p.left.a lf.kids.length p.left.cap, .int .i64 x.op, .int .i64 x.n, .slice p.x.a x.kids.length p.x.cap, .int .i64 n]] w fun e w' => e = .returned (.bool false) ∧ Below w.heap.size w w' := by
  have K0 := Lib.hid (Keeps.new (Below.refl w.heap.size w) (Nat.le_refl _) 37 #[.int .i64 kd, .int .i64 lab, .bool sk, .slice p.words nw p.cap, .int .i64 lf.op, .int .i64 lf.n, .slice p.left.a lf.kids.length p.left.cap, .int .i64 x.op, .int .i64 x.n, .slice p.x.a x.kids.length p.x.cap, .int .i64 n])
  by_cases h1 : lab < 0
  · have e1 : decide (lab < 0) = true := decide_eq_true h1
    clear hl h1
    go_enter Try.func38, Try.ntmps38
    go_wp2_with fail
    go_ret
    exact ⟨rfl, K0.out.bel⟩
  · have e1 : decide (lab < 0) = false := decide_eq_false h1
    by_cases h2 : 99999 < lab
    · have e2 : decide (99999 < lab) = true := decide_eq_true h2
      clear hl h1 h2
      go_enter Try.func38, Try.ntmps38
      go_wp2_with fail
      go_ret
      exact ⟨rfl, K0.out.bel⟩
    · have e2 : decide (99999 < lab) = false := decide_eq_false h2
      have e3 : decide ((24 : Int) < (nw : Int)) = true := decide_eq_true (by omega)
      clear hl h1 h2
      go_enter Try.func38, Try.ntmps38
      go_wp2_with fail
      go_ret
      exact ⟨rfl, K0.out.bel⟩
set_option maxRecDepth 100000 in
set_option maxHeartbeats 1000000 in
theorem valid_out (kd lab n : Int) (sk : Bool) (nw : Nat) (lf x : Ex) (p : Place) (w : World) (hl : 0 ≤ lab ∧ lab ≤ 99999) (hw : nw ≤ 24) (hk : kd < 0 ∨ 6 < kd) :
    Calls Try.prog 38 #[.agg #[.int .i64 kd, .int .i64 lab, .bool sk, .slice p.words nw p.cap, .int .i64 lf.op, .int .i64 lf.n, .slice p.left.a lf.kids.length p.left.cap, .int .i64 x.op, .int .i64 x.n, .slice p.x.a x.kids.length p.x.cap, .int .i64 n]] w fun e w' => e = .returned (.bool false) ∧ Below w.heap.size w w' := by
  have K0 := Lib.hid (Keeps.new (Below.refl w.heap.size w) (Nat.le_refl _) 37 #[.int .i64 kd, .int .i64 lab, .bool sk, .slice p.words nw p.cap, .int .i64 lf.op, .int .i64 lf.n, .slice p.left.a lf.kids.length p.left.cap, .int .i64 x.op, .int .i64 x.n, .slice p.x.a x.kids.length p.x.cap, .int .i64 n])
  have e1 : decide (lab < 0) = false := decide_eq_false (by omega)
  have e2 : decide (99999 < lab) = false := decide_eq_false (by omega)
  have e3 : decide ((24 : Int) < (nw : Int)) = false := decide_eq_false (by omega)
  have k0 : (kd == 0) = false := by simp; omega
  have k1 : (kd == 1) = false := by simp; omega
  have k2 : (kd == 2) = false := by simp; omega
  have k3 : (kd == 3) = false := by simp; omega
  have k4 : (kd == 4) = false := by simp; omega
  have k5 : (kd == 5) = false := by simp; omega
  have k6 : (kd == 6) = false := by simp; omega
  clear hl hw hk
  go_enter Try.func38, Try.ntmps38
  go_wp2_with fail
  go_ret
  exact ⟨rfl, K0.out.bel⟩

set_option maxRecDepth 100000 in
set_option maxHeartbeats 1000000 in
theorem valid_words1 (lab n : Int) (sk : Bool) (nw : Nat) (lf x : Ex) (p : Place) (w : World) (hl : 0 ≤ lab ∧ lab ≤ 99999) (hw : nw ≤ 24) (h0 : 0 < nw) :
    Calls Try.prog 38 #[.agg #[.int .i64 1, .int .i64 lab, .bool sk, .slice p.words nw p.cap, .int .i64 lf.op, .int .i64 lf.n, .slice p.left.a lf.kids.length p.left.cap, .int .i64 x.op, .int .i64 x.n, .slice p.x.a x.kids.length p.x.cap, .int .i64 n]] w fun e w' => e = .returned (.bool false) ∧ Below w.heap.size w w' := by
  have K0 := Lib.hid (Keeps.new (Below.refl w.heap.size w) (Nat.le_refl _) 37 #[.int .i64 1, .int .i64 lab, .bool sk, .slice p.words nw p.cap, .int .i64 lf.op, .int .i64 lf.n, .slice p.left.a lf.kids.length p.left.cap, .int .i64 x.op, .int .i64 x.n, .slice p.x.a x.kids.length p.x.cap, .int .i64 n])
  have e1 : decide (lab < 0) = false := decide_eq_false (by omega)
  have e2 : decide (99999 < lab) = false := decide_eq_false (by omega)
  have e3 : decide ((24 : Int) < (nw : Int)) = false := decide_eq_false (by omega)
  have e4 : decide ((0 : Int) < (nw : Int)) = true := decide_eq_true (by omega)
  have e5 : decide (0 < nw) = true := decide_eq_true (by omega)
  clear hl hw
  go_enter Try.func38, Try.ntmps38
  go_wp2_with fail
  go_ret
  exact ⟨rfl, K0.out.bel⟩

set_option maxRecDepth 100000 in
set_option maxHeartbeats 1000000 in
theorem valid_words2 (lab n : Int) (sk : Bool) (nw : Nat) (lf x : Ex) (p : Place) (w : World) (hl : 0 ≤ lab ∧ lab ≤ 99999) (hw : nw ≤ 24) (h0 : 0 < nw) :
    Calls Try.prog 38 #[.agg #[.int .i64 2, .int .i64 lab, .bool sk, .slice p.words nw p.cap, .int .i64 lf.op, .int .i64 lf.n, .slice p.left.a lf.kids.length p.left.cap, .int .i64 x.op, .int .i64 x.n, .slice p.x.a x.kids.length p.x.cap, .int .i64 n]] w fun e w' => e = .returned (.bool false) ∧ Below w.heap.size w w' := by
  have K0 := Lib.hid (Keeps.new (Below.refl w.heap.size w) (Nat.le_refl _) 37 #[.int .i64 2, .int .i64 lab, .bool sk, .slice p.words nw p.cap, .int .i64 lf.op, .int .i64 lf.n, .slice p.left.a lf.kids.length p.left.cap, .int .i64 x.op, .int .i64 x.n, .slice p.x.a x.kids.length p.x.cap, .int .i64 n])
  have e1 : decide (lab < 0) = false := decide_eq_false (by omega)
  have e2 : decide (99999 < lab) = false := decide_eq_false (by omega)
  have e3 : decide ((24 : Int) < (nw : Int)) = false := decide_eq_false (by omega)
  have e4 : decide ((0 : Int) < (nw : Int)) = true := decide_eq_true (by omega)
  have e5 : decide (0 < nw) = true := decide_eq_true (by omega)
  clear hl hw
  go_enter Try.func38, Try.ntmps38
  go_wp2_with fail
  go_ret
  exact ⟨rfl, K0.out.bel⟩

set_option maxRecDepth 100000 in
set_option maxHeartbeats 1000000 in
theorem valid_words3 (lab n : Int) (sk : Bool) (nw : Nat) (lf x : Ex) (p : Place) (w : World) (hl : 0 ≤ lab ∧ lab ≤ 99999) (hw : nw ≤ 24) (h0 : 0 < nw) :
    Calls Try.prog 38 #[.agg #[.int .i64 3, .int .i64 lab, .bool sk, .slice p.words nw p.cap, .int .i64 lf.op, .int .i64 lf.n, .slice p.left.a lf.kids.length p.left.cap, .int .i64 x.op, .int .i64 x.n, .slice p.x.a x.kids.length p.x.cap, .int .i64 n]] w fun e w' => e = .returned (.bool false) ∧ Below w.heap.size w w' := by
  have K0 := Lib.hid (Keeps.new (Below.refl w.heap.size w) (Nat.le_refl _) 37 #[.int .i64 3, .int .i64 lab, .bool sk, .slice p.words nw p.cap, .int .i64 lf.op, .int .i64 lf.n, .slice p.left.a lf.kids.length p.left.cap, .int .i64 x.op, .int .i64 x.n, .slice p.x.a x.kids.length p.x.cap, .int .i64 n])
  have e1 : decide (lab < 0) = false := decide_eq_false (by omega)
  have e2 : decide (99999 < lab) = false := decide_eq_false (by omega)
  have e3 : decide ((24 : Int) < (nw : Int)) = false := decide_eq_false (by omega)
  have e4 : decide ((0 : Int) < (nw : Int)) = true := decide_eq_true (by omega)
  have e5 : decide (0 < nw) = true := decide_eq_true (by omega)
  clear hl hw
  go_enter Try.func38, Try.ntmps38
  go_wp2_with fail
  go_ret
  exact ⟨rfl, K0.out.bel⟩

set_option maxRecDepth 100000 in
set_option maxHeartbeats 1000000 in
theorem valid_words4 (lab n : Int) (sk : Bool) (nw : Nat) (lf x : Ex) (p : Place) (w : World) (hl : 0 ≤ lab ∧ lab ≤ 99999) (hw : nw ≤ 24) (h0 : 0 < nw) :
    Calls Try.prog 38 #[.agg #[.int .i64 4, .int .i64 lab, .bool sk, .slice p.words nw p.cap, .int .i64 lf.op, .int .i64 lf.n, .slice p.left.a lf.kids.length p.left.cap, .int .i64 x.op, .int .i64 x.n, .slice p.x.a x.kids.length p.x.cap, .int .i64 n]] w fun e w' => e = .returned (.bool false) ∧ Below w.heap.size w w' := by
  have K0 := Lib.hid (Keeps.new (Below.refl w.heap.size w) (Nat.le_refl _) 37 #[.int .i64 4, .int .i64 lab, .bool sk, .slice p.words nw p.cap, .int .i64 lf.op, .int .i64 lf.n, .slice p.left.a lf.kids.length p.left.cap, .int .i64 x.op, .int .i64 x.n, .slice p.x.a x.kids.length p.x.cap, .int .i64 n])
  have e1 : decide (lab < 0) = false := decide_eq_false (by omega)
  have e2 : decide (99999 < lab) = false := decide_eq_false (by omega)
  have e3 : decide ((24 : Int) < (nw : Int)) = false := decide_eq_false (by omega)
  have e4 : decide ((0 : Int) < (nw : Int)) = true := decide_eq_true (by omega)
  have e5 : decide (0 < nw) = true := decide_eq_true (by omega)
  clear hl hw
  go_enter Try.func38, Try.ntmps38
  go_wp2_with fail
  go_ret
  exact ⟨rfl, K0.out.bel⟩

set_option maxRecDepth 100000 in
set_option maxHeartbeats 1000000 in
theorem valid_words5 (lab n : Int) (sk : Bool) (nw : Nat) (lf x : Ex) (p : Place) (w : World) (hl : 0 ≤ lab ∧ lab ≤ 99999) (hw : nw ≤ 24) (h0 : 0 < nw) :
    Calls Try.prog 38 #[.agg #[.int .i64 5, .int .i64 lab, .bool sk, .slice p.words nw p.cap, .int .i64 lf.op, .int .i64 lf.n, .slice p.left.a lf.kids.length p.left.cap, .int .i64 x.op, .int .i64 x.n, .slice p.x.a x.kids.length p.x.cap, .int .i64 n]] w fun e w' => e = .returned (.bool false) ∧ Below w.heap.size w w' := by
  have K0 := Lib.hid (Keeps.new (Below.refl w.heap.size w) (Nat.le_refl _) 37 #[.int .i64 5, .int .i64 lab, .bool sk, .slice p.words nw p.cap, .int .i64 lf.op, .int .i64 lf.n, .slice p.left.a lf.kids.length p.left.cap, .int .i64 x.op, .int .i64 x.n, .slice p.x.a x.kids.length p.x.cap, .int .i64 n])
  have e1 : decide (lab < 0) = false := decide_eq_false (by omega)
  have e2 : decide (99999 < lab) = false := decide_eq_false (by omega)
  have e3 : decide ((24 : Int) < (nw : Int)) = false := decide_eq_false (by omega)
  have e4 : decide ((0 : Int) < (nw : Int)) = true := decide_eq_true (by omega)
  have e5 : decide (0 < nw) = true := decide_eq_true (by omega)
  clear hl hw
  go_enter Try.func38, Try.ntmps38
  go_wp2_with fail
  go_ret
  exact ⟨rfl, K0.out.bel⟩

set_option maxRecDepth 100000 in
set_option maxHeartbeats 1000000 in
theorem valid_words6 (lab n : Int) (sk : Bool) (nw : Nat) (lf x : Ex) (p : Place) (w : World) (hl : 0 ≤ lab ∧ lab ≤ 99999) (hw : nw ≤ 24) (h0 : 0 < nw) :
    Calls Try.prog 38 #[.agg #[.int .i64 6, .int .i64 lab, .bool sk, .slice p.words nw p.cap, .int .i64 lf.op, .int .i64 lf.n, .slice p.left.a lf.kids.length p.left.cap, .int .i64 x.op, .int .i64 x.n, .slice p.x.a x.kids.length p.x.cap, .int .i64 n]] w fun e w' => e = .returned (.bool false) ∧ Below w.heap.size w w' := by
  have K0 := Lib.hid (Keeps.new (Below.refl w.heap.size w) (Nat.le_refl _) 37 #[.int .i64 6, .int .i64 lab, .bool sk, .slice p.words nw p.cap, .int .i64 lf.op, .int .i64 lf.n, .slice p.left.a lf.kids.length p.left.cap, .int .i64 x.op, .int .i64 x.n, .slice p.x.a x.kids.length p.x.cap, .int .i64 n])
  have e1 : decide (lab < 0) = false := decide_eq_false (by omega)
  have e2 : decide (99999 < lab) = false := decide_eq_false (by omega)
  have e3 : decide ((24 : Int) < (nw : Int)) = false := decide_eq_false (by omega)
  have e4 : decide ((0 : Int) < (nw : Int)) = true := decide_eq_true (by omega)
  have e5 : decide (0 < nw) = true := decide_eq_true (by omega)
  clear hl hw
  go_enter Try.func38, Try.ntmps38
  go_wp2_with fail
  go_ret
  exact ⟨rfl, K0.out.bel⟩

theorem valid_any (b : BlkL) (p : Place) (w : World) (h : BlkAt w b p) :
    Calls Try.prog 38 #[.agg (blkC b p).toArray] w fun e w' => e = .returned (.bool (validB b)) ∧ Below w.heap.size w w' := by
  obtain ⟨kd, lab, sk, ws, lf, x, n⟩ := b
  show Calls Try.prog 38 #[.agg #[.int .i64 kd, .int .i64 lab, .bool sk, .slice p.words ws.length p.cap, .int .i64 lf.op, .int .i64 lf.n, .slice p.left.a lf.kids.length p.left.cap, .int .i64 x.op, .int .i64 x.n, .slice p.x.a x.kids.length p.x.cap, .int .i64 n]] w _
  by_cases hbad : lab < 0 ∨ 99999 < lab ∨ 24 < ws.length
  · have e : validB ⟨kd, lab, sk, ws, lf, x, n⟩ = false := by unfold validB; rw [if_pos hbad]
    rw [e]
    exact valid_bad kd lab n sk ws.length lf x p w hbad
  · by_cases hk : kd < 0 ∨ 6 < kd
    · have e : validB ⟨kd, lab, sk, ws, lf, x, n⟩ = false := by unfold validB; rw [if_neg hbad, if_neg (by intro h; simp at h; omega), if_pos hk]
      rw [e]
      exact valid_out kd lab n sk ws.length lf x p w (by omega) (by omega) hk
    · by_cases hw : ws = []
      · subst hw
        obtain rfl | rfl | rfl | rfl | rfl | rfl | rfl : kd = 0 ∨ kd = 1 ∨ kd = 2 ∨ kd = 3 ∨ kd = 4 ∨ kd = 5 ∨ kd = 6 := by omega
        · exact valid0_any lab n sk [] lf x p w h (by omega) (by simp)
        · exact valid1_any lab n sk lf x p w h (by omega)
        · exact valid2_any lab n sk lf x p w h (by omega)
        · exact valid3_any lab n sk lf x p w h (by omega)
        · exact valid4_any lab n sk lf x p w h (by omega)
        · exact valid5_any lab n sk lf x p w h (by omega)
        · exact valid6_any lab n sk lf x p w h (by omega)
      · have hw0 : 0 < ws.length := List.length_pos_iff.2 hw
        by_cases h0 : kd = 0
        · subst h0
          exact valid0_any lab n sk ws lf x p w h (by omega) (by omega)
        · have e : validB ⟨kd, lab, sk, ws, lf, x, n⟩ = false := by unfold validB; rw [if_neg hbad, if_neg h0, if_neg hk, if_pos hw0]
          rw [e]
          obtain rfl | rfl | rfl | rfl | rfl | rfl : kd = 1 ∨ kd = 2 ∨ kd = 3 ∨ kd = 4 ∨ kd = 5 ∨ kd = 6 := by omega
          · exact valid_words1 lab n sk ws.length lf x p w (by omega) (by omega) hw0
          · exact valid_words2 lab n sk ws.length lf x p w (by omega) (by omega) hw0
          · exact valid_words3 lab n sk ws.length lf x p w (by omega) (by omega) hw0
          · exact valid_words4 lab n sk ws.length lf x p w (by omega) (by omega) hw0
          · exact valid_words5 lab n sk ws.length lf x p w (by omega) (by omega) hw0
          · exact valid_words6 lab n sk ws.length lf x p w (by omega) (by omega) hw0

end Go.Proofs.Yteiogjgmedikhaa

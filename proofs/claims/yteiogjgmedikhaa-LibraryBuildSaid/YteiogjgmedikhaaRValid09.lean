/-
  cncref06.Valid.
-/
import Derived.Test.YteiogjgmedikhaaRRight09
import Derived.Test.YteiogjgmedikhaaBlk09
namespace Go.Proofs.Yteiogjgmedikhaa
open Go Go.RowKit
set_option linter.unusedVariables false

set_option maxRecDepth 100000 in
set_option maxHeartbeats 1000000 in
theorem rvalid1_any (lab n : Int) (sk : Bool) (lf x : Ex) (p : Place) (w : World) (h : BlkAt w ⟨1, lab, sk, [], lf, x, n⟩ p) (hl : 0 ≤ lab ∧ lab ≤ 99999) :
    Calls Try.prog 42 #[.agg #[.int .i64 1, .int .i64 lab, .bool sk, .slice p.words 0 p.cap, .int .i64 lf.op, .int .i64 lf.n, .slice p.left.a lf.kids.length p.left.cap, .int .i64 x.op, .int .i64 x.n, .slice p.x.a x.kids.length p.x.cap, .int .i64 n]] w fun e w' => e = .returned (.bool (validB ⟨1, lab, sk, [], lf, x, n⟩)) ∧ Below w.heap.size w w' := by
  have e1 : decide (lab < 0) = false := decide_eq_false (by omega)
  have e2 : decide (99999 < lab) = false := decide_eq_false (by omega)
  have KL := Lib.hid (fun W (hb : Below w.heap.size w W) => rright16_any lf p.left.a p.left.cap W (h.left.under hb))
  have KX := Lib.hid (fun W (hb : Below w.heap.size w W) => rright16_any x p.x.a p.x.cap W (h.x.under hb))
  have K0 := Lib.hid (Keeps.new (Below.refl w.heap.size w) (Nat.le_refl _) 37 #[.int .i64 1, .int .i64 lab, .bool sk, .slice p.words 0 p.cap, .int .i64 lf.op, .int .i64 lf.n, .slice p.left.a lf.kids.length p.left.cap, .int .i64 x.op, .int .i64 x.n, .slice p.x.a x.kids.length p.x.cap, .int .i64 n])
  have HV : validB ⟨1, lab, sk, [], lf, x, n⟩ = (rightR 16 lf && rightR 16 x && decide (n = 0)) := by
    have hlab : ¬ (lab < 0 ∨ 99999 < lab ∨ 24 < ([] : List WordL).length) := by simp; omega
    try rw [right_same]
    try rw [right_same]
    unfold validB
    simp only
    rw [if_neg hlab]
    cases rightE 16 lf <;> cases rightE 16 x <;> simp
  have HV := Lib.hid HV
  clear h hl
  go_enter Try.func42, Try.ntmps42
  go_wp2_with fail
  go_loopw [3] (fun s wr => s = .int .i64 0 ∧ Keeps w.heap.size w w.heap.size 37 #[.int .i64 1, .int .i64 lab, .bool sk, .slice p.words 0 p.cap, .int .i64 lf.op, .int .i64 lf.n, .slice p.left.a lf.kids.length p.left.cap, .int .i64 x.op, .int .i64 x.n, .slice p.x.a x.kids.length p.x.cap, .int .i64 n] wr) (fun s _ => 0)
  case atStart => exact ⟨rfl, K0.out⟩
  obtain ⟨rfl, ka⟩ := hrel
  have KA := Lib.hid ka
  clear ka
  have f0 := KA.out.blk.cell 0
  have f3 := KA.out.blk.cell 3
  have f4 := KA.out.blk.cell 4
  have f5 := KA.out.blk.cell 5
  have f6 := KA.out.blk.cell 6
  have f7 := KA.out.blk.cell 7
  have f8 := KA.out.blk.cell 8
  have f9 := KA.out.blk.cell 9
  have f10 := KA.out.blk.cell 10
  go_wp2_with fail
  refine (KL.out _ KA.out.bel).mono ?_
  rintro e w1 ⟨rfl, b1⟩
  have K1 := Lib.hid (KA.out.below b1)
  clear f0 f3 f4 f5 f6 f7 f8 f9 f10
  have f0 := K1.out.blk.cell 0
  have f7 := K1.out.blk.cell 7
  have f8 := K1.out.blk.cell 8
  have f9 := K1.out.blk.cell 9
  have f10 := K1.out.blk.cell 10
  clear b1 KA
  cases hr1 : rightR 16 lf with
  | false =>
    have HF := Lib.hid (show validB ⟨1, lab, sk, [], lf, x, n⟩ = false by rw [HV.out, hr1]; rfl)
    go_wp2_with fail
    go_ret
    exact ⟨by rw [HF.out]; rfl, K1.out.bel⟩
  | true =>
    have HR1 := Lib.hid hr1
    clear hr1
    go_wp2_with fail
    refine (KX.out _ K1.out.bel).mono ?_
    rintro e w2 ⟨rfl, b2⟩
    have K2 := Lib.hid (K1.out.below b2)
    clear f0 f7 f8 f9 f10
    have f0 := K2.out.blk.cell 0
    have f10 := K2.out.blk.cell 10
    clear b2 K1
    cases hr2 : rightR 16 x with
    | false =>
      have HF := Lib.hid (show validB ⟨1, lab, sk, [], lf, x, n⟩ = false by rw [HV.out, hr2, Bool.and_false]; rfl)
      go_wp2_with fail
      go_ret
      exact ⟨by rw [HF.out]; rfl, K2.out.bel⟩
    | true =>
      have hr1 := HR1.out
      by_cases hn : n = 0
      · have HF := Lib.hid (show validB ⟨1, lab, sk, [], lf, x, n⟩ = true by rw [HV.out, hr1, hr2, decide_eq_true hn]; rfl)
        subst hn
        clear hr1 hr2
        go_wp2_with fail
        go_ret
        exact ⟨by rw [HF.out]; rfl, K2.out.bel⟩
      · have HF := Lib.hid (show validB ⟨1, lab, sk, [], lf, x, n⟩ = false by rw [HV.out, hr1, hr2, decide_eq_false hn]; rfl)
        have g0 : (n == 0) = false := by simpa using hn
        clear hn hr1 hr2
        go_wp2_with fail
        go_ret
        exact ⟨by rw [HF.out]; rfl, K2.out.bel⟩

set_option maxRecDepth 100000 in
set_option maxHeartbeats 1000000 in
theorem rvalid2_any (lab n : Int) (sk : Bool) (lf x : Ex) (p : Place) (w : World) (h : BlkAt w ⟨2, lab, sk, [], lf, x, n⟩ p) (hl : 0 ≤ lab ∧ lab ≤ 99999) :
    Calls Try.prog 42 #[.agg #[.int .i64 2, .int .i64 lab, .bool sk, .slice p.words 0 p.cap, .int .i64 lf.op, .int .i64 lf.n, .slice p.left.a lf.kids.length p.left.cap, .int .i64 x.op, .int .i64 x.n, .slice p.x.a x.kids.length p.x.cap, .int .i64 n]] w fun e w' => e = .returned (.bool (validB ⟨2, lab, sk, [], lf, x, n⟩)) ∧ Below w.heap.size w w' := by
  have e1 : decide (lab < 0) = false := decide_eq_false (by omega)
  have e2 : decide (99999 < lab) = false := decide_eq_false (by omega)
  have KL := Lib.hid (fun W (hb : Below w.heap.size w W) => none_any lf p.left.a p.left.cap W)
  have KX := Lib.hid (fun W (hb : Below w.heap.size w W) => rright16_any x p.x.a p.x.cap W (h.x.under hb))
  have K0 := Lib.hid (Keeps.new (Below.refl w.heap.size w) (Nat.le_refl _) 37 #[.int .i64 2, .int .i64 lab, .bool sk, .slice p.words 0 p.cap, .int .i64 lf.op, .int .i64 lf.n, .slice p.left.a lf.kids.length p.left.cap, .int .i64 x.op, .int .i64 x.n, .slice p.x.a x.kids.length p.x.cap, .int .i64 n])
  have HV : validB ⟨2, lab, sk, [], lf, x, n⟩ = (zeroE lf && rightR 16 x && decide (n = 0)) := by
    have hlab : ¬ (lab < 0 ∨ 99999 < lab ∨ 24 < ([] : List WordL).length) := by simp; omega
    skip
    try rw [right_same]
    unfold validB
    simp only
    rw [if_neg hlab]
    cases zeroE lf <;> cases rightE 16 x <;> simp
  have HV := Lib.hid HV
  clear h hl
  go_enter Try.func42, Try.ntmps42
  go_wp2_with fail
  go_loopw [3] (fun s wr => s = .int .i64 0 ∧ Keeps w.heap.size w w.heap.size 37 #[.int .i64 2, .int .i64 lab, .bool sk, .slice p.words 0 p.cap, .int .i64 lf.op, .int .i64 lf.n, .slice p.left.a lf.kids.length p.left.cap, .int .i64 x.op, .int .i64 x.n, .slice p.x.a x.kids.length p.x.cap, .int .i64 n] wr) (fun s _ => 0)
  case atStart => exact ⟨rfl, K0.out⟩
  obtain ⟨rfl, ka⟩ := hrel
  have KA := Lib.hid ka
  clear ka
  have f0 := KA.out.blk.cell 0
  have f3 := KA.out.blk.cell 3
  have f4 := KA.out.blk.cell 4
  have f5 := KA.out.blk.cell 5
  have f6 := KA.out.blk.cell 6
  have f7 := KA.out.blk.cell 7
  have f8 := KA.out.blk.cell 8
  have f9 := KA.out.blk.cell 9
  have f10 := KA.out.blk.cell 10
  go_wp2_with fail
  refine (KL.out _ KA.out.bel).mono ?_
  rintro e w1 ⟨rfl, b1⟩
  have K1 := Lib.hid (KA.out.below b1)
  clear f0 f3 f4 f5 f6 f7 f8 f9 f10
  have f0 := K1.out.blk.cell 0
  have f7 := K1.out.blk.cell 7
  have f8 := K1.out.blk.cell 8
  have f9 := K1.out.blk.cell 9
  have f10 := K1.out.blk.cell 10
  clear b1 KA
  cases hr1 : zeroE lf with
  | false =>
    have HF := Lib.hid (show validB ⟨2, lab, sk, [], lf, x, n⟩ = false by rw [HV.out, hr1]; rfl)
    go_wp2_with fail
    go_ret
    exact ⟨by rw [HF.out]; rfl, K1.out.bel⟩
  | true =>
    have HR1 := Lib.hid hr1
    clear hr1
    go_wp2_with fail
    refine (KX.out _ K1.out.bel).mono ?_
    rintro e w2 ⟨rfl, b2⟩
    have K2 := Lib.hid (K1.out.below b2)
    clear f0 f7 f8 f9 f10
    have f0 := K2.out.blk.cell 0
    have f10 := K2.out.blk.cell 10
    clear b2 K1
    cases hr2 : rightR 16 x with
    | false =>
      have HF := Lib.hid (show validB ⟨2, lab, sk, [], lf, x, n⟩ = false by rw [HV.out, hr2, Bool.and_false]; rfl)
      go_wp2_with fail
      go_ret
      exact ⟨by rw [HF.out]; rfl, K2.out.bel⟩
    | true =>
      have hr1 := HR1.out
      by_cases hn : n = 0
      · have HF := Lib.hid (show validB ⟨2, lab, sk, [], lf, x, n⟩ = true by rw [HV.out, hr1, hr2, decide_eq_true hn]; rfl)
        subst hn
        clear hr1 hr2
        go_wp2_with fail
        go_ret
        exact ⟨by rw [HF.out]; rfl, K2.out.bel⟩
      · have HF := Lib.hid (show validB ⟨2, lab, sk, [], lf, x, n⟩ = false by rw [HV.out, hr1, hr2, decide_eq_false hn]; rfl)
        have g0 : (n == 0) = false := by simpa using hn
        clear hn hr1 hr2
        go_wp2_with fail
        go_ret
        exact ⟨by rw [HF.out]; rfl, K2.out.bel⟩

set_option maxRecDepth 100000 in
set_option maxHeartbeats 1000000 in
theorem rvalid3_any (lab n : Int) (sk : Bool) (lf x : Ex) (p : Place) (w : World) (h : BlkAt w ⟨3, lab, sk, [], lf, x, n⟩ p) (hl : 0 ≤ lab ∧ lab ≤ 99999) :
    Calls Try.prog 42 #[.agg #[.int .i64 3, .int .i64 lab, .bool sk, .slice p.words 0 p.cap, .int .i64 lf.op, .int .i64 lf.n, .slice p.left.a lf.kids.length p.left.cap, .int .i64 x.op, .int .i64 x.n, .slice p.x.a x.kids.length p.x.cap, .int .i64 n]] w fun e w' => e = .returned (.bool (validB ⟨3, lab, sk, [], lf, x, n⟩)) ∧ Below w.heap.size w w' := by
  have e1 : decide (lab < 0) = false := decide_eq_false (by omega)
  have e2 : decide (99999 < lab) = false := decide_eq_false (by omega)
  have KL := Lib.hid (fun W (hb : Below w.heap.size w W) => rright16_any lf p.left.a p.left.cap W (h.left.under hb))
  have KX := Lib.hid (fun W (hb : Below w.heap.size w W) => rright16_any x p.x.a p.x.cap W (h.x.under hb))
  have K0 := Lib.hid (Keeps.new (Below.refl w.heap.size w) (Nat.le_refl _) 37 #[.int .i64 3, .int .i64 lab, .bool sk, .slice p.words 0 p.cap, .int .i64 lf.op, .int .i64 lf.n, .slice p.left.a lf.kids.length p.left.cap, .int .i64 x.op, .int .i64 x.n, .slice p.x.a x.kids.length p.x.cap, .int .i64 n])
  have HV : validB ⟨3, lab, sk, [], lf, x, n⟩ = (rightR 16 lf && rightR 16 x && decide (n = 0)) := by
    have hlab : ¬ (lab < 0 ∨ 99999 < lab ∨ 24 < ([] : List WordL).length) := by simp; omega
    try rw [right_same]
    try rw [right_same]
    unfold validB
    simp only
    rw [if_neg hlab]
    cases rightE 16 lf <;> cases rightE 16 x <;> simp
  have HV := Lib.hid HV
  clear h hl
  go_enter Try.func42, Try.ntmps42
  go_wp2_with fail
  go_loopw [3] (fun s wr => s = .int .i64 0 ∧ Keeps w.heap.size w w.heap.size 37 #[.int .i64 3, .int .i64 lab, .bool sk, .slice p.words 0 p.cap, .int .i64 lf.op, .int .i64 lf.n, .slice p.left.a lf.kids.length p.left.cap, .int .i64 x.op, .int .i64 x.n, .slice p.x.a x.kids.length p.x.cap, .int .i64 n] wr) (fun s _ => 0)
  case atStart => exact ⟨rfl, K0.out⟩
  obtain ⟨rfl, ka⟩ := hrel
  have KA := Lib.hid ka
  clear ka
  have f0 := KA.out.blk.cell 0
  have f3 := KA.out.blk.cell 3
  have f4 := KA.out.blk.cell 4
  have f5 := KA.out.blk.cell 5
  have f6 := KA.out.blk.cell 6
  have f7 := KA.out.blk.cell 7
  have f8 := KA.out.blk.cell 8
  have f9 := KA.out.blk.cell 9
  have f10 := KA.out.blk.cell 10
  go_wp2_with fail
  refine (KL.out _ KA.out.bel).mono ?_
  rintro e w1 ⟨rfl, b1⟩
  have K1 := Lib.hid (KA.out.below b1)
  clear f0 f3 f4 f5 f6 f7 f8 f9 f10
  have f0 := K1.out.blk.cell 0
  have f7 := K1.out.blk.cell 7
  have f8 := K1.out.blk.cell 8
  have f9 := K1.out.blk.cell 9
  have f10 := K1.out.blk.cell 10
  clear b1 KA
  cases hr1 : rightR 16 lf with
  | false =>
    have HF := Lib.hid (show validB ⟨3, lab, sk, [], lf, x, n⟩ = false by rw [HV.out, hr1]; rfl)
    go_wp2_with fail
    go_ret
    exact ⟨by rw [HF.out]; rfl, K1.out.bel⟩
  | true =>
    have HR1 := Lib.hid hr1
    clear hr1
    go_wp2_with fail
    refine (KX.out _ K1.out.bel).mono ?_
    rintro e w2 ⟨rfl, b2⟩
    have K2 := Lib.hid (K1.out.below b2)
    clear f0 f7 f8 f9 f10
    have f0 := K2.out.blk.cell 0
    have f10 := K2.out.blk.cell 10
    clear b2 K1
    cases hr2 : rightR 16 x with
    | false =>
      have HF := Lib.hid (show validB ⟨3, lab, sk, [], lf, x, n⟩ = false by rw [HV.out, hr2, Bool.and_false]; rfl)
      go_wp2_with fail
      go_ret
      exact ⟨by rw [HF.out]; rfl, K2.out.bel⟩
    | true =>
      have hr1 := HR1.out
      by_cases hn : n = 0
      · have HF := Lib.hid (show validB ⟨3, lab, sk, [], lf, x, n⟩ = true by rw [HV.out, hr1, hr2, decide_eq_true hn]; rfl)
        subst hn
        clear hr1 hr2
        go_wp2_with fail
        go_ret
        exact ⟨by rw [HF.out]; rfl, K2.out.bel⟩
      · have HF := Lib.hid (show validB ⟨3, lab, sk, [], lf, x, n⟩ = false by rw [HV.out, hr1, hr2, decide_eq_false hn]; rfl)
        have g0 : (n == 0) = false := by simpa using hn
        clear hn hr1 hr2
        go_wp2_with fail
        go_ret
        exact ⟨by rw [HF.out]; rfl, K2.out.bel⟩

set_option maxRecDepth 100000 in
set_option maxHeartbeats 1000000 in
theorem rvalid4_any (lab n : Int) (sk : Bool) (lf x : Ex) (p : Place) (w : World) (h : BlkAt w ⟨4, lab, sk, [], lf, x, n⟩ p) (hl : 0 ≤ lab ∧ lab ≤ 99999) :
    Calls Try.prog 42 #[.agg #[.int .i64 4, .int .i64 lab, .bool sk, .slice p.words 0 p.cap, .int .i64 lf.op, .int .i64 lf.n, .slice p.left.a lf.kids.length p.left.cap, .int .i64 x.op, .int .i64 x.n, .slice p.x.a x.kids.length p.x.cap, .int .i64 n]] w fun e w' => e = .returned (.bool (validB ⟨4, lab, sk, [], lf, x, n⟩)) ∧ Below w.heap.size w w' := by
  have e1 : decide (lab < 0) = false := decide_eq_false (by omega)
  have e2 : decide (99999 < lab) = false := decide_eq_false (by omega)
  have KL := Lib.hid (fun W (hb : Below w.heap.size w W) => none_any lf p.left.a p.left.cap W)
  have KX := Lib.hid (fun W (hb : Below w.heap.size w W) => rright16_any x p.x.a p.x.cap W (h.x.under hb))
  have K0 := Lib.hid (Keeps.new (Below.refl w.heap.size w) (Nat.le_refl _) 37 #[.int .i64 4, .int .i64 lab, .bool sk, .slice p.words 0 p.cap, .int .i64 lf.op, .int .i64 lf.n, .slice p.left.a lf.kids.length p.left.cap, .int .i64 x.op, .int .i64 x.n, .slice p.x.a x.kids.length p.x.cap, .int .i64 n])
  have HV : validB ⟨4, lab, sk, [], lf, x, n⟩ = (zeroE lf && rightR 16 x && decide (1 ≤ n ∧ n ≤ 3)) := by
    have hlab : ¬ (lab < 0 ∨ 99999 < lab ∨ 24 < ([] : List WordL).length) := by simp; omega
    skip
    try rw [right_same]
    unfold validB
    simp only
    rw [if_neg hlab]
    cases zeroE lf <;> cases rightE 16 x <;> simp
  have HV := Lib.hid HV
  clear h hl
  go_enter Try.func42, Try.ntmps42
  go_wp2_with fail
  go_loopw [3] (fun s wr => s = .int .i64 0 ∧ Keeps w.heap.size w w.heap.size 37 #[.int .i64 4, .int .i64 lab, .bool sk, .slice p.words 0 p.cap, .int .i64 lf.op, .int .i64 lf.n, .slice p.left.a lf.kids.length p.left.cap, .int .i64 x.op, .int .i64 x.n, .slice p.x.a x.kids.length p.x.cap, .int .i64 n] wr) (fun s _ => 0)
  case atStart => exact ⟨rfl, K0.out⟩
  obtain ⟨rfl, ka⟩ := hrel
  have KA := Lib.hid ka
  clear ka
  have f0 := KA.out.blk.cell 0
  have f3 := KA.out.blk.cell 3
  have f4 := KA.out.blk.cell 4
  have f5 := KA.out.blk.cell 5
  have f6 := KA.out.blk.cell 6
  have f7 := KA.out.blk.cell 7
  have f8 := KA.out.blk.cell 8
  have f9 := KA.out.blk.cell 9
  have f10 := KA.out.blk.cell 10
  go_wp2_with fail
  refine (KL.out _ KA.out.bel).mono ?_
  rintro e w1 ⟨rfl, b1⟩
  have K1 := Lib.hid (KA.out.below b1)
  clear f0 f3 f4 f5 f6 f7 f8 f9 f10
  have f0 := K1.out.blk.cell 0
  have f7 := K1.out.blk.cell 7
  have f8 := K1.out.blk.cell 8
  have f9 := K1.out.blk.cell 9
  have f10 := K1.out.blk.cell 10
  clear b1 KA
  cases hr1 : zeroE lf with
  | false =>
    have HF := Lib.hid (show validB ⟨4, lab, sk, [], lf, x, n⟩ = false by rw [HV.out, hr1]; rfl)
    go_wp2_with fail
    go_ret
    exact ⟨by rw [HF.out]; rfl, K1.out.bel⟩
  | true =>
    have HR1 := Lib.hid hr1
    clear hr1
    go_wp2_with fail
    refine (KX.out _ K1.out.bel).mono ?_
    rintro e w2 ⟨rfl, b2⟩
    have K2 := Lib.hid (K1.out.below b2)
    clear f0 f7 f8 f9 f10
    have f0 := K2.out.blk.cell 0
    have f10 := K2.out.blk.cell 10
    clear b2 K1
    cases hr2 : rightR 16 x with
    | false =>
      have HF := Lib.hid (show validB ⟨4, lab, sk, [], lf, x, n⟩ = false by rw [HV.out, hr2, Bool.and_false]; rfl)
      go_wp2_with fail
      go_ret
      exact ⟨by rw [HF.out]; rfl, K2.out.bel⟩
    | true =>
      have hr1 := HR1.out
      by_cases hn : 1 ≤ n ∧ n ≤ 3
      · have HF := Lib.hid (show validB ⟨4, lab, sk, [], lf, x, n⟩ = true by rw [HV.out, hr1, hr2, decide_eq_true hn]; rfl)
        have g1 : decide (1 ≤ n) = true := decide_eq_true hn.1
        have g2 : decide (n ≤ 3) = true := decide_eq_true hn.2
        clear hn hr1 hr2
        go_wp2_with fail
        go_ret
        exact ⟨by rw [HF.out]; rfl, K2.out.bel⟩
      · have HF := Lib.hid (show validB ⟨4, lab, sk, [], lf, x, n⟩ = false by rw [HV.out, hr1, hr2, decide_eq_false hn]; rfl)
        by_cases g : 1 ≤ n
        · have g1 : decide (1 ≤ n) = true := decide_eq_true g
          have g2 : decide (n ≤ 3) = false := decide_eq_false (by omega)
          clear hn g hr1 hr2
          go_wp2_with fail
          go_ret
          exact ⟨by rw [HF.out]; rfl, K2.out.bel⟩
        · have g1 : decide (1 ≤ n) = false := decide_eq_false g
          clear hn g hr1 hr2
          go_wp2_with fail
          go_ret
          exact ⟨by rw [HF.out]; rfl, K2.out.bel⟩

set_option maxRecDepth 100000 in
set_option maxHeartbeats 1000000 in
theorem rvalid5_any (lab n : Int) (sk : Bool) (lf x : Ex) (p : Place) (w : World) (h : BlkAt w ⟨5, lab, sk, [], lf, x, n⟩ p) (hl : 0 ≤ lab ∧ lab ≤ 99999) :
    Calls Try.prog 42 #[.agg #[.int .i64 5, .int .i64 lab, .bool sk, .slice p.words 0 p.cap, .int .i64 lf.op, .int .i64 lf.n, .slice p.left.a lf.kids.length p.left.cap, .int .i64 x.op, .int .i64 x.n, .slice p.x.a x.kids.length p.x.cap, .int .i64 n]] w fun e w' => e = .returned (.bool (validB ⟨5, lab, sk, [], lf, x, n⟩)) ∧ Below w.heap.size w w' := by
  have e1 : decide (lab < 0) = false := decide_eq_false (by omega)
  have e2 : decide (99999 < lab) = false := decide_eq_false (by omega)
  have KL := Lib.hid (fun W (hb : Below w.heap.size w W) => none_any lf p.left.a p.left.cap W)
  have KX := Lib.hid (fun W (hb : Below w.heap.size w W) => none_any x p.x.a p.x.cap W)
  have K0 := Lib.hid (Keeps.new (Below.refl w.heap.size w) (Nat.le_refl _) 37 #[.int .i64 5, .int .i64 lab, .bool sk, .slice p.words 0 p.cap, .int .i64 lf.op, .int .i64 lf.n, .slice p.left.a lf.kids.length p.left.cap, .int .i64 x.op, .int .i64 x.n, .slice p.x.a x.kids.length p.x.cap, .int .i64 n])
  have HV : validB ⟨5, lab, sk, [], lf, x, n⟩ = (zeroE lf && zeroE x && decide (1 ≤ n ∧ n ≤ 3)) := by
    have hlab : ¬ (lab < 0 ∨ 99999 < lab ∨ 24 < ([] : List WordL).length) := by simp; omega
    skip
    skip
    unfold validB
    simp only
    rw [if_neg hlab]
    cases zeroE lf <;> cases zeroE x <;> simp
  have HV := Lib.hid HV
  clear h hl
  go_enter Try.func42, Try.ntmps42
  go_wp2_with fail
  go_loopw [3] (fun s wr => s = .int .i64 0 ∧ Keeps w.heap.size w w.heap.size 37 #[.int .i64 5, .int .i64 lab, .bool sk, .slice p.words 0 p.cap, .int .i64 lf.op, .int .i64 lf.n, .slice p.left.a lf.kids.length p.left.cap, .int .i64 x.op, .int .i64 x.n, .slice p.x.a x.kids.length p.x.cap, .int .i64 n] wr) (fun s _ => 0)
  case atStart => exact ⟨rfl, K0.out⟩
  obtain ⟨rfl, ka⟩ := hrel
  have KA := Lib.hid ka
  clear ka
  have f0 := KA.out.blk.cell 0
  have f3 := KA.out.blk.cell 3
  have f4 := KA.out.blk.cell 4
  have f5 := KA.out.blk.cell 5
  have f6 := KA.out.blk.cell 6
  have f7 := KA.out.blk.cell 7
  have f8 := KA.out.blk.cell 8
  have f9 := KA.out.blk.cell 9
  have f10 := KA.out.blk.cell 10
  go_wp2_with fail
  refine (KL.out _ KA.out.bel).mono ?_
  rintro e w1 ⟨rfl, b1⟩
  have K1 := Lib.hid (KA.out.below b1)
  clear f0 f3 f4 f5 f6 f7 f8 f9 f10
  have f0 := K1.out.blk.cell 0
  have f7 := K1.out.blk.cell 7
  have f8 := K1.out.blk.cell 8
  have f9 := K1.out.blk.cell 9
  have f10 := K1.out.blk.cell 10
  clear b1 KA
  cases hr1 : zeroE lf with
  | false =>
    have HF := Lib.hid (show validB ⟨5, lab, sk, [], lf, x, n⟩ = false by rw [HV.out, hr1]; rfl)
    go_wp2_with fail
    go_ret
    exact ⟨by rw [HF.out]; rfl, K1.out.bel⟩
  | true =>
    have HR1 := Lib.hid hr1
    clear hr1
    go_wp2_with fail
    refine (KX.out _ K1.out.bel).mono ?_
    rintro e w2 ⟨rfl, b2⟩
    have K2 := Lib.hid (K1.out.below b2)
    clear f0 f7 f8 f9 f10
    have f0 := K2.out.blk.cell 0
    have f10 := K2.out.blk.cell 10
    clear b2 K1
    cases hr2 : zeroE x with
    | false =>
      have HF := Lib.hid (show validB ⟨5, lab, sk, [], lf, x, n⟩ = false by rw [HV.out, hr2, Bool.and_false]; rfl)
      go_wp2_with fail
      go_ret
      exact ⟨by rw [HF.out]; rfl, K2.out.bel⟩
    | true =>
      have hr1 := HR1.out
      by_cases hn : 1 ≤ n ∧ n ≤ 3
      · have HF := Lib.hid (show validB ⟨5, lab, sk, [], lf, x, n⟩ = true by rw [HV.out, hr1, hr2, decide_eq_true hn]; rfl)
        have g1 : decide (1 ≤ n) = true := decide_eq_true hn.1
        have g2 : decide (n ≤ 3) = true := decide_eq_true hn.2
        clear hn hr1 hr2
        go_wp2_with fail
        go_ret
        exact ⟨by rw [HF.out]; rfl, K2.out.bel⟩
      · have HF := Lib.hid (show validB ⟨5, lab, sk, [], lf, x, n⟩ = false by rw [HV.out, hr1, hr2, decide_eq_false hn]; rfl)
        by_cases g : 1 ≤ n
        · have g1 : decide (1 ≤ n) = true := decide_eq_true g
          have g2 : decide (n ≤ 3) = false := decide_eq_false (by omega)
          clear hn g hr1 hr2
          go_wp2_with fail
          go_ret
          exact ⟨by rw [HF.out]; rfl, K2.out.bel⟩
        · have g1 : decide (1 ≤ n) = false := decide_eq_false g
          clear hn g hr1 hr2
          go_wp2_with fail
          go_ret
          exact ⟨by rw [HF.out]; rfl, K2.out.bel⟩

set_option maxRecDepth 100000 in
set_option maxHeartbeats 1000000 in
theorem rvalid6_any (lab n : Int) (sk : Bool) (lf x : Ex) (p : Place) (w : World) (h : BlkAt w ⟨6, lab, sk, [], lf, x, n⟩ p) (hl : 0 ≤ lab ∧ lab ≤ 99999) :
    Calls Try.prog 42 #[.agg #[.int .i64 6, .int .i64 lab, .bool sk, .slice p.words 0 p.cap, .int .i64 lf.op, .int .i64 lf.n, .slice p.left.a lf.kids.length p.left.cap, .int .i64 x.op, .int .i64 x.n, .slice p.x.a x.kids.length p.x.cap, .int .i64 n]] w fun e w' => e = .returned (.bool (validB ⟨6, lab, sk, [], lf, x, n⟩)) ∧ Below w.heap.size w w' := by
  have e1 : decide (lab < 0) = false := decide_eq_false (by omega)
  have e2 : decide (99999 < lab) = false := decide_eq_false (by omega)
  have KL := Lib.hid (fun W (hb : Below w.heap.size w W) => none_any lf p.left.a p.left.cap W)
  have KX := Lib.hid (fun W (hb : Below w.heap.size w W) => none_any x p.x.a p.x.cap W)
  have K0 := Lib.hid (Keeps.new (Below.refl w.heap.size w) (Nat.le_refl _) 37 #[.int .i64 6, .int .i64 lab, .bool sk, .slice p.words 0 p.cap, .int .i64 lf.op, .int .i64 lf.n, .slice p.left.a lf.kids.length p.left.cap, .int .i64 x.op, .int .i64 x.n, .slice p.x.a x.kids.length p.x.cap, .int .i64 n])
  have HV : validB ⟨6, lab, sk, [], lf, x, n⟩ = (zeroE lf && zeroE x && decide (1 ≤ n ∧ n ≤ 99999)) := by
    have hlab : ¬ (lab < 0 ∨ 99999 < lab ∨ 24 < ([] : List WordL).length) := by simp; omega
    skip
    skip
    unfold validB
    simp only
    rw [if_neg hlab]
    cases zeroE lf <;> cases zeroE x <;> simp
  have HV := Lib.hid HV
  clear h hl
  go_enter Try.func42, Try.ntmps42
  go_wp2_with fail
  go_loopw [3] (fun s wr => s = .int .i64 0 ∧ Keeps w.heap.size w w.heap.size 37 #[.int .i64 6, .int .i64 lab, .bool sk, .slice p.words 0 p.cap, .int .i64 lf.op, .int .i64 lf.n, .slice p.left.a lf.kids.length p.left.cap, .int .i64 x.op, .int .i64 x.n, .slice p.x.a x.kids.length p.x.cap, .int .i64 n] wr) (fun s _ => 0)
  case atStart => exact ⟨rfl, K0.out⟩
  obtain ⟨rfl, ka⟩ := hrel
  have KA := Lib.hid ka
  clear ka
  have f0 := KA.out.blk.cell 0
  have f3 := KA.out.blk.cell 3
  have f4 := KA.out.blk.cell 4
  have f5 := KA.out.blk.cell 5
  have f6 := KA.out.blk.cell 6
  have f7 := KA.out.blk.cell 7
  have f8 := KA.out.blk.cell 8
  have f9 := KA.out.blk.cell 9
  have f10 := KA.out.blk.cell 10
  go_wp2_with fail
  refine (KL.out _ KA.out.bel).mono ?_
  rintro e w1 ⟨rfl, b1⟩
  have K1 := Lib.hid (KA.out.below b1)
  clear f0 f3 f4 f5 f6 f7 f8 f9 f10
  have f0 := K1.out.blk.cell 0
  have f7 := K1.out.blk.cell 7
  have f8 := K1.out.blk.cell 8
  have f9 := K1.out.blk.cell 9
  have f10 := K1.out.blk.cell 10
  clear b1 KA
  cases hr1 : zeroE lf with
  | false =>
    have HF := Lib.hid (show validB ⟨6, lab, sk, [], lf, x, n⟩ = false by rw [HV.out, hr1]; rfl)
    go_wp2_with fail
    go_ret
    exact ⟨by rw [HF.out]; rfl, K1.out.bel⟩
  | true =>
    have HR1 := Lib.hid hr1
    clear hr1
    go_wp2_with fail
    refine (KX.out _ K1.out.bel).mono ?_
    rintro e w2 ⟨rfl, b2⟩
    have K2 := Lib.hid (K1.out.below b2)
    clear f0 f7 f8 f9 f10
    have f0 := K2.out.blk.cell 0
    have f10 := K2.out.blk.cell 10
    clear b2 K1
    cases hr2 : zeroE x with
    | false =>
      have HF := Lib.hid (show validB ⟨6, lab, sk, [], lf, x, n⟩ = false by rw [HV.out, hr2, Bool.and_false]; rfl)
      go_wp2_with fail
      go_ret
      exact ⟨by rw [HF.out]; rfl, K2.out.bel⟩
    | true =>
      have hr1 := HR1.out
      by_cases hn : 1 ≤ n ∧ n ≤ 99999
      · have HF := Lib.hid (show validB ⟨6, lab, sk, [], lf, x, n⟩ = true by rw [HV.out, hr1, hr2, decide_eq_true hn]; rfl)
        have g1 : decide (1 ≤ n) = true := decide_eq_true hn.1
        have g2 : decide (n ≤ 99999) = true := decide_eq_true hn.2
        clear hn hr1 hr2
        go_wp2_with fail
        go_ret
        exact ⟨by rw [HF.out]; rfl, K2.out.bel⟩
      · have HF := Lib.hid (show validB ⟨6, lab, sk, [], lf, x, n⟩ = false by rw [HV.out, hr1, hr2, decide_eq_false hn]; rfl)
        by_cases g : 1 ≤ n
        · have g1 : decide (1 ≤ n) = true := decide_eq_true g
          have g2 : decide (n ≤ 99999) = false := decide_eq_false (by omega)
          clear hn g hr1 hr2
          go_wp2_with fail
          go_ret
          exact ⟨by rw [HF.out]; rfl, K2.out.bel⟩
        · have g1 : decide (1 ≤ n) = false := decide_eq_false g
          clear hn g hr1 hr2
          go_wp2_with fail
          go_ret
          exact ⟨by rw [HF.out]; rfl, K2.out.bel⟩

set_option maxRecDepth 100000 in
set_option maxHeartbeats 1000000 in
theorem rvalid0_any (lab n : Int) (sk : Bool) (ws : List WordL) (lf x : Ex) (p : Place) (w : World) (h : BlkAt w ⟨0, lab, sk, ws, lf, x, n⟩ p) (hl : 0 ≤ lab ∧ lab ≤ 99999) (hw : ws.length ≤ 24) :
    Calls Try.prog 42 #[.agg #[.int .i64 0, .int .i64 lab, .bool sk, .slice p.words ws.length p.cap, .int .i64 lf.op, .int .i64 lf.n, .slice p.left.a lf.kids.length p.left.cap, .int .i64 x.op, .int .i64 x.n, .slice p.x.a x.kids.length p.x.cap, .int .i64 n]] w fun e w' => e = .returned (.bool (validB ⟨0, lab, sk, ws, lf, x, n⟩)) ∧ Below w.heap.size w w' := by
  have e1 : decide (lab < 0) = false := decide_eq_false (by omega)
  have e2 : decide (99999 < lab) = false := decide_eq_false (by omega)
  have KL := Lib.hid (fun W (hb : Below w.heap.size w W) => none_any lf p.left.a p.left.cap W)
  have KX := Lib.hid (fun W (hb : Below w.heap.size w W) => none_any x p.x.a p.x.cap W)
  have K0 := Lib.hid (Keeps.new (Below.refl w.heap.size w) (Nat.le_refl _) 37 #[.int .i64 0, .int .i64 lab, .bool sk, .slice p.words ws.length p.cap, .int .i64 lf.op, .int .i64 lf.n, .slice p.left.a lf.kids.length p.left.cap, .int .i64 x.op, .int .i64 x.n, .slice p.x.a x.kids.length p.x.cap, .int .i64 n])
  have e3 : decide (24 < (ws.length : Int)) = false := decide_eq_false (by omega)
  have H := Lib.hid h.words
  have HV : validB ⟨0, lab, sk, ws, lf, x, n⟩ = (zeroE lf && zeroE x && decide (n = 0) && ws.all wordB) := by
    have hlab : ¬ (lab < 0 ∨ 99999 < lab ∨ 24 < ws.length) := by omega
    unfold validB
    simp only
    rw [if_neg hlab, if_pos trivial]
  have HW := Lib.hid HV
  clear HV h hl
  go_enter Try.func42, Try.ntmps42
  go_wp2_with fail
  go_loopw [3, 4] (fun s c wr => ∃ i : Nat, i ≤ ws.length ∧ s = .int .i64 i ∧ (∀ (j : Nat) (x : WordL), j < i → ws[j]? = some x → wordB x = true) ∧ Keeps w.heap.size w w.heap.size 37 #[.int .i64 0, .int .i64 lab, .bool sk, .slice p.words ws.length p.cap, .int .i64 lf.op, .int .i64 lf.n, .slice p.left.a lf.kids.length p.left.cap, .int .i64 x.op, .int .i64 x.n, .slice p.x.a x.kids.length p.x.cap, .int .i64 n] wr)
    (fun s _ _ => ws.length - (intOf s).toNat)
  case atStart => exact ⟨0, by omega, rfl, fun j x h => by omega, K0.out⟩
  case round =>
    obtain ⟨i, hi, rfl, hall, ka⟩ := hrel
    have HA := Lib.hid hall
    have KA := Lib.hid ka
    have i0 : (0 : Int) ≤ (i : Int) := by omega
    clear hall
    by_cases hlt : i < ws.length
    · have d1 : decide (i < ws.length) = true := by simpa using hlt
      have i1 : (i : Int) < (ws.length : Int) := by omega
      have f3 := KA.out.blk.cell 3
      have hx : ws[i]? = some ws[i] := List.getElem?_eq_getElem hlt
      generalize ws[i] = y at hx
      have hr := H.out.under ka.bel
      obtain ⟨b, o, ew, hb, hc⟩ := hr.num i y hx
      have hE := hr.tree i y hx
      have p0 := hc 0 _ rfl
      have p1 := hc 1 _ rfl
      have p2 := hc 2 _ rfl
      have p3 := hc 3 _ rfl
      rw [Nat.add_zero] at p0
      have HEW := Lib.hid ew
      rw [ew] at f3
      clear hc hr ew
      have hbad : wordB y = false → ws.all wordB = false := fun h => List.all_eq_false.2 ⟨_, List.mem_of_getElem? hx, by simp [h]⟩
      have hbad' : wordB y = false → validB ⟨0, lab, sk, ws, lf, x, n⟩ = false := fun h => by rw [HW.out, hbad h, Bool.and_false]
      have HBAD := Lib.hid hbad'
      have HX := Lib.hid hx
      have KR := Lib.hid (fun W (hb : Below wr.heap.size wr W) => rright16_any y.x _ _ W (hE.under hb))
      clear hbad hbad' hx hE
      by_cases h1 : y.letter < 65
      · have g1 : decide (y.letter < 65) = true := decide_eq_true h1
        have HF := Lib.hid (HBAD.out (by unfold wordB; rw [decide_eq_false (by omega), Bool.false_and]))
        clear h1 ka
        go_wp2_with fail
        go_ret
        exact ⟨by rw [HF.out]; rfl, KA.out.bel⟩
      have g1 : decide (y.letter < 65) = false := decide_eq_false h1
      by_cases h2 : 90 < y.letter
      · have g2 : decide (90 < y.letter) = true := decide_eq_true h2
        have HF := Lib.hid (HBAD.out (by unfold wordB; rw [decide_eq_false (by omega), Bool.false_and]))
        clear h1 h2 ka
        go_wp2_with fail
        go_ret
        exact ⟨by rw [HF.out]; rfl, KA.out.bel⟩
      have g2 : decide (90 < y.letter) = false := decide_eq_false h2
      by_cases h3 : y.letter = 78
      · have g3 : (y.letter == 78) = true := by simpa using h3
        have HF := Lib.hid (HBAD.out (by unfold wordB; rw [decide_eq_false (by omega), Bool.false_and]))
        clear h1 h2 h3 ka
        go_wp2_with fail
        go_ret
        exact ⟨by rw [HF.out]; rfl, KA.out.bel⟩
      have g3 : (y.letter == 78) = false := by simpa using h3
      by_cases h4 : y.letter = 79
      · have g4 : (y.letter == 79) = true := by simpa using h4
        have HF := Lib.hid (HBAD.out (by unfold wordB; rw [decide_eq_false (by omega), Bool.false_and]))
        clear h1 h2 h3 h4 ka
        go_wp2_with fail
        go_ret
        exact ⟨by rw [HF.out]; rfl, KA.out.bel⟩
      have g4 : (y.letter == 79) = false := by simpa using h4
      have hwb : wordB y = rightR 16 y.x := by unfold wordB; rw [decide_eq_true (by omega), Bool.true_and, right_same]
      have HWB := Lib.hid hwb
      clear hwb h1 h2 h3 h4
      go_wp2_with fail
      refine (KR.out _ (Below.refl _ _)).mono ?_
      rintro e w2 ⟨rfl, b2⟩
      have K2 := Lib.hid (KA.out.below b2)
      clear b2 ka
      cases hrv : rightR 16 y.x with
      | true =>
        go_wp2_with fail
        go_roundw
        case rel => exact ⟨i + 1, by omega, by go_num, fun j y' hj hy => by
          by_cases ej : j = i
          · subst ej
            rw [HX.out] at hy
            injection hy with hy
            rw [← hy, HWB.out]
            exact hrv
          · exact HA.out j y' (by omega) hy, K2.out⟩
        case measure => simp [intOf] <;> omega
      | false =>
        have HF := Lib.hid (HBAD.out (HWB.out.trans hrv))
        go_wp2_with fail
        go_ret
        exact ⟨by rw [HF.out]; rfl, K2.out.bel⟩
    · obtain rfl : i = ws.length := by omega
      have d1 : decide (ws.length < ws.length) = false := by simp
      have hf : ws.all wordB = true := List.all_eq_true.2 fun y hy => by
        obtain ⟨j, hj, ej⟩ := List.mem_iff_getElem.1 hy
        exact HA.out j y hj (by rw [← ej]; exact List.getElem?_eq_getElem hj)
      have HV := Lib.hid (HW.out.trans (by rw [hf, Bool.and_true] : _ = (zeroE lf && zeroE x && decide (n = 0))))
      clear hf ka hlt
      have f0 := KA.out.blk.cell 0
      have f3 := KA.out.blk.cell 3
      have f4 := KA.out.blk.cell 4
      have f5 := KA.out.blk.cell 5
      have f6 := KA.out.blk.cell 6
      have f7 := KA.out.blk.cell 7
      have f8 := KA.out.blk.cell 8
      have f9 := KA.out.blk.cell 9
      have f10 := KA.out.blk.cell 10
      go_wp2_with fail
      refine (KL.out _ KA.out.bel).mono ?_
      rintro e w1 ⟨rfl, b1⟩
      have K1 := Lib.hid (KA.out.below b1)
      clear f0 f3 f4 f5 f6 f7 f8 f9 f10
      have f0 := K1.out.blk.cell 0
      have f7 := K1.out.blk.cell 7
      have f8 := K1.out.blk.cell 8
      have f9 := K1.out.blk.cell 9
      have f10 := K1.out.blk.cell 10
      clear b1 KA
      cases hr1 : zeroE lf with
      | false =>
        have HF := Lib.hid (show validB ⟨0, lab, sk, ws, lf, x, n⟩ = false by rw [HV.out, hr1]; rfl)
        go_wp2_with fail
        go_ret
        exact ⟨by rw [HF.out]; rfl, K1.out.bel⟩
      | true =>
        have HR1 := Lib.hid hr1
        clear hr1
        go_wp2_with fail
        refine (KX.out _ K1.out.bel).mono ?_
        rintro e w2 ⟨rfl, b2⟩
        have K2 := Lib.hid (K1.out.below b2)
        clear f0 f7 f8 f9 f10
        have f0 := K2.out.blk.cell 0
        have f10 := K2.out.blk.cell 10
        clear b2 K1
        cases hr2 : zeroE x with
        | false =>
          have HF := Lib.hid (show validB ⟨0, lab, sk, ws, lf, x, n⟩ = false by rw [HV.out, hr2, Bool.and_false]; rfl)
          go_wp2_with fail
          go_ret
          exact ⟨by rw [HF.out]; rfl, K2.out.bel⟩
        | true =>
          have hr1 := HR1.out
          by_cases hn : n = 0
          · have HF := Lib.hid (show validB ⟨0, lab, sk, ws, lf, x, n⟩ = true by rw [HV.out, hr1, hr2, decide_eq_true hn]; rfl)
            subst hn
            clear hr1 hr2
            go_wp2_with fail
            go_ret
            exact ⟨by rw [HF.out]; rfl, K2.out.bel⟩
          · have HF := Lib.hid (show validB ⟨0, lab, sk, ws, lf, x, n⟩ = false by rw [HV.out, hr1, hr2, decide_eq_false hn]; rfl)
            have g0 : (n == 0) = false := by simpa using hn
            clear hn hr1 hr2
            go_wp2_with fail
            go_ret
            exact ⟨by rw [HF.out]; rfl, K2.out.bel⟩

set_option maxRecDepth 100000 in
set_option maxHeartbeats 1000000 in
theorem rvalid_neg (kd lab n : Int) (sk : Bool) (nw : Nat) (lf x : Ex) (p : Place) (w : World) (h : kd < 0) :
    Calls Try.prog 42 #[.agg #[.int .i64 kd, .int .i64 lab, .bool sk, .slice p.words nw p.cap, .int .i64 lf.op, .int .i64 lf.n, .slice p.left.a lf.kids.length p.left.cap, .int .i64 x.op, .int .i64 x.n, .slice p.x.a x.kids.length p.x.cap, .int .i64 n]] w fun e w' => e = .returned (.bool false) ∧ Below w.heap.size w w' := by
  have K0 := Lib.hid (Keeps.new (Below.refl w.heap.size w) (Nat.le_refl _) 37 #[.int .i64 kd, .int .i64 lab, .bool sk, .slice p.words nw p.cap, .int .i64 lf.op, .int .i64 lf.n, .slice p.left.a lf.kids.length p.left.cap, .int .i64 x.op, .int .i64 x.n, .slice p.x.a x.kids.length p.x.cap, .int .i64 n])
  have a0 : decide (kd < 0) = true := decide_eq_true (by omega)
  clear h
  go_enter Try.func42, Try.ntmps42
  go_wp2_with fail
  go_ret
  exact ⟨rfl, K0.out.bel⟩

set_option maxRecDepth 100000 in
set_option maxHeartbeats 1000000 in
theorem rvalid_big (kd lab n : Int) (sk : Bool) (nw : Nat) (lf x : Ex) (p : Place) (w : World) (h : 6 < kd) :
    Calls Try.prog 42 #[.agg #[.int .i64 kd, .int .i64 lab, .bool sk, .slice p.words nw p.cap, .int .i64 lf.op, .int .i64 lf.n, .slice p.left.a lf.kids.length p.left.cap, .int .i64 x.op, .int .i64 x.n, .slice p.x.a x.kids.length p.x.cap, .int .i64 n]] w fun e w' => e = .returned (.bool false) ∧ Below w.heap.size w w' := by
  have K0 := Lib.hid (Keeps.new (Below.refl w.heap.size w) (Nat.le_refl _) 37 #[.int .i64 kd, .int .i64 lab, .bool sk, .slice p.words nw p.cap, .int .i64 lf.op, .int .i64 lf.n, .slice p.left.a lf.kids.length p.left.cap, .int .i64 x.op, .int .i64 x.n, .slice p.x.a x.kids.length p.x.cap, .int .i64 n])
  have a0 : decide (kd < 0) = false := decide_eq_false (by omega)
  have a1 : decide (6 < kd) = true := decide_eq_true (by omega)
  clear h
  go_enter Try.func42, Try.ntmps42
  go_wp2_with fail
  go_ret
  exact ⟨rfl, K0.out.bel⟩

set_option maxRecDepth 100000 in
set_option maxHeartbeats 1000000 in
theorem rvalid_lneg (kd lab n : Int) (sk : Bool) (nw : Nat) (lf x : Ex) (p : Place) (w : World) (h : 0 ≤ kd ∧ kd ≤ 6) (hl : lab < 0) :
    Calls Try.prog 42 #[.agg #[.int .i64 kd, .int .i64 lab, .bool sk, .slice p.words nw p.cap, .int .i64 lf.op, .int .i64 lf.n, .slice p.left.a lf.kids.length p.left.cap, .int .i64 x.op, .int .i64 x.n, .slice p.x.a x.kids.length p.x.cap, .int .i64 n]] w fun e w' => e = .returned (.bool false) ∧ Below w.heap.size w w' := by
  have K0 := Lib.hid (Keeps.new (Below.refl w.heap.size w) (Nat.le_refl _) 37 #[.int .i64 kd, .int .i64 lab, .bool sk, .slice p.words nw p.cap, .int .i64 lf.op, .int .i64 lf.n, .slice p.left.a lf.kids.length p.left.cap, .int .i64 x.op, .int .i64 x.n, .slice p.x.a x.kids.length p.x.cap, .int .i64 n])
  have a0 : decide (kd < 0) = false := decide_eq_false (by omega)
  have a1 : decide (6 < kd) = false := decide_eq_false (by omega)
  have a2 : decide (lab < 0) = true := decide_eq_true (by omega)
  clear h hl
  go_enter Try.func42, Try.ntmps42
  go_wp2_with fail
  go_ret
  exact ⟨rfl, K0.out.bel⟩

set_option maxRecDepth 100000 in
set_option maxHeartbeats 1000000 in
theorem rvalid_lbig (kd lab n : Int) (sk : Bool) (nw : Nat) (lf x : Ex) (p : Place) (w : World) (h : 0 ≤ kd ∧ kd ≤ 6) (hl : 99999 < lab) :
    Calls Try.prog 42 #[.agg #[.int .i64 kd, .int .i64 lab, .bool sk, .slice p.words nw p.cap, .int .i64 lf.op, .int .i64 lf.n, .slice p.left.a lf.kids.length p.left.cap, .int .i64 x.op, .int .i64 x.n, .slice p.x.a x.kids.length p.x.cap, .int .i64 n]] w fun e w' => e = .returned (.bool false) ∧ Below w.heap.size w w' := by
  have K0 := Lib.hid (Keeps.new (Below.refl w.heap.size w) (Nat.le_refl _) 37 #[.int .i64 kd, .int .i64 lab, .bool sk, .slice p.words nw p.cap, .int .i64 lf.op, .int .i64 lf.n, .slice p.left.a lf.kids.length p.left.cap, .int .i64 x.op, .int .i64 x.n, .slice p.x.a x.kids.length p.x.cap, .int .i64 n])
  have a0 : decide (kd < 0) = false := decide_eq_false (by omega)
  have a1 : decide (6 < kd) = false := decide_eq_false (by omega)
  have a2 : decide (lab < 0) = false := decide_eq_false (by omega)
  have a3 : decide (99999 < lab) = true := decide_eq_true (by omega)
  clear h hl
  go_enter Try.func42, Try.ntmps42
  go_wp2_with fail
  go_ret
  exact ⟨rfl, K0.out.bel⟩

set_option maxRecDepth 100000 in
set_option maxHeartbeats 1000000 in
theorem rvalid_many (kd lab n : Int) (sk : Bool) (nw : Nat) (lf x : Ex) (p : Place) (w : World) (h : 0 ≤ kd ∧ kd ≤ 6) (hl : 0 ≤ lab ∧ lab ≤ 99999) (hw : 24 < nw) :
    Calls Try.prog 42 #[.agg #[.int .i64 kd, .int .i64 lab, .bool sk, .slice p.words nw p.cap, .int .i64 lf.op, .int .i64 lf.n, .slice p.left.a lf.kids.length p.left.cap, .int .i64 x.op, .int .i64 x.n, .slice p.x.a x.kids.length p.x.cap, .int .i64 n]] w fun e w' => e = .returned (.bool false) ∧ Below w.heap.size w w' := by
  have K0 := Lib.hid (Keeps.new (Below.refl w.heap.size w) (Nat.le_refl _) 37 #[.int .i64 kd, .int .i64 lab, .bool sk, .slice p.words nw p.cap, .int .i64 lf.op, .int .i64 lf.n, .slice p.left.a lf.kids.length p.left.cap, .int .i64 x.op, .int .i64 x.n, .slice p.x.a x.kids.length p.x.cap, .int .i64 n])
  have a0 : decide (kd < 0) = false := decide_eq_false (by omega)
  have a1 : decide (6 < kd) = false := decide_eq_false (by omega)
  have a2 : decide (lab < 0) = false := decide_eq_false (by omega)
  have a3 : decide (99999 < lab) = false := decide_eq_false (by omega)
  have a4 : decide ((24 : Int) < (nw : Int)) = true := decide_eq_true (by omega)
  clear h hl hw
  go_enter Try.func42, Try.ntmps42
  go_wp2_with fail
  go_ret
  exact ⟨rfl, K0.out.bel⟩

set_option maxRecDepth 100000 in
set_option maxHeartbeats 1000000 in
theorem rvalid_words (kd lab n : Int) (sk : Bool) (nw : Nat) (lf x : Ex) (p : Place) (w : World) (h : 1 ≤ kd ∧ kd ≤ 6) (hl : 0 ≤ lab ∧ lab ≤ 99999) (hw : nw ≤ 24) (h0 : 0 < nw) :
    Calls Try.prog 42 #[.agg #[.int .i64 kd, .int .i64 lab, .bool sk, .slice p.words nw p.cap, .int .i64 lf.op, .int .i64 lf.n, .slice p.left.a lf.kids.length p.left.cap, .int .i64 x.op, .int .i64 x.n, .slice p.x.a x.kids.length p.x.cap, .int .i64 n]] w fun e w' => e = .returned (.bool false) ∧ Below w.heap.size w w' := by
  have K0 := Lib.hid (Keeps.new (Below.refl w.heap.size w) (Nat.le_refl _) 37 #[.int .i64 kd, .int .i64 lab, .bool sk, .slice p.words nw p.cap, .int .i64 lf.op, .int .i64 lf.n, .slice p.left.a lf.kids.length p.left.cap, .int .i64 x.op, .int .i64 x.n, .slice p.x.a x.kids.length p.x.cap, .int .i64 n])
  have a0 : decide (kd < 0) = false := decide_eq_false (by omega)
  have a1 : decide (6 < kd) = false := decide_eq_false (by omega)
  have a2 : decide (lab < 0) = false := decide_eq_false (by omega)
  have a3 : decide (99999 < lab) = false := decide_eq_false (by omega)
  have a4 : decide ((24 : Int) < (nw : Int)) = false := decide_eq_false (by omega)
  have a6 : decide (0 < nw) = true := decide_eq_true (by omega)
  have a7 : decide ((0 : Int) < (nw : Int)) = true := decide_eq_true (by omega)
  have a5 : (kd != 0) = true := by simp; omega
  clear h hl hw
  go_enter Try.func42, Try.ntmps42
  go_wp2_with fail
  go_ret
  exact ⟨rfl, K0.out.bel⟩

theorem rvalid_any (b : BlkL) (p : Place) (w : World) (h : BlkAt w b p) :
    Calls Try.prog 42 #[.agg (blkC b p).toArray] w fun e w' => e = .returned (.bool (validB b)) ∧ Below w.heap.size w w' := by
  obtain ⟨kd, lab, sk, ws, lf, x, n⟩ := b
  show Calls Try.prog 42 #[.agg #[.int .i64 kd, .int .i64 lab, .bool sk, .slice p.words ws.length p.cap, .int .i64 lf.op, .int .i64 lf.n, .slice p.left.a lf.kids.length p.left.cap, .int .i64 x.op, .int .i64 x.n, .slice p.x.a x.kids.length p.x.cap, .int .i64 n]] w _
  by_cases hk : kd < 0 ∨ 6 < kd
  · have e : validB ⟨kd, lab, sk, ws, lf, x, n⟩ = false := by
      by_cases hb : lab < 0 ∨ 99999 < lab ∨ 24 < ws.length
      · unfold validB; rw [if_pos hb]
      · unfold validB; rw [if_neg hb, if_neg (by intro h; simp at h; omega), if_pos hk]
    rw [e]
    by_cases h1 : kd < 0
    · exact rvalid_neg kd lab n sk ws.length lf x p w h1
    · exact rvalid_big kd lab n sk ws.length lf x p w (by omega)
  · by_cases hbad : lab < 0 ∨ 99999 < lab ∨ 24 < ws.length
    · have e : validB ⟨kd, lab, sk, ws, lf, x, n⟩ = false := by unfold validB; rw [if_pos hbad]
      rw [e]
      by_cases h1 : lab < 0
      · exact rvalid_lneg kd lab n sk ws.length lf x p w (by omega) h1
      · by_cases h2 : 99999 < lab
        · exact rvalid_lbig kd lab n sk ws.length lf x p w (by omega) h2
        · exact rvalid_many kd lab n sk ws.length lf x p w (by omega) (by omega) (by omega)
    · by_cases hw : ws = []
      · subst hw
        obtain rfl | rfl | rfl | rfl | rfl | rfl | rfl : kd = 0 ∨ kd = 1 ∨ kd = 2 ∨ kd = 3 ∨ kd = 4 ∨ kd = 5 ∨ kd = 6 := by omega
        · exact rvalid0_any lab n sk [] lf x p w h (by omega) (by simp)
        · exact rvalid1_any lab n sk lf x p w h (by omega)
        · exact rvalid2_any lab n sk lf x p w h (by omega)
        · exact rvalid3_any lab n sk lf x p w h (by omega)
        · exact rvalid4_any lab n sk lf x p w h (by omega)
        · exact rvalid5_any lab n sk lf x p w h (by omega)
        · exact rvalid6_any lab n sk lf x p w h (by omega)
      · have hw0 : 0 < ws.length := List.length_pos_iff.2 hw
        by_cases h0 : kd = 0
        · subst h0
          exact rvalid0_any lab n sk ws lf x p w h (by omega) (by omega)
        · have e : validB ⟨kd, lab, sk, ws, lf, x, n⟩ = false := by unfold validB; rw [if_neg hbad, if_neg h0, if_neg hk, if_pos hw0]
          rw [e]
          exact rvalid_words kd lab n sk ws.length lf x p w (by omega) (by omega) (by omega) hw0
end Go.Proofs.Yteiogjgmedikhaa

/-
  arc.similar, aligned, Check: any item.
-/
import Derived.Test.YtefdjdipbnnoaaaGreatDoorItem17
import Derived.Test.YtefdjdipbnnoaaaGreatDoorHeld
namespace Go.Proofs.YtefdjdipbnnoaaaGreatDoor
open Go Go.RowKit
set_option linter.unusedVariables false

attribute [local go_sem] itA_0 itA_1 itA_2 itA_3 itA_4 itA_5 itA_6 itA_7 itA_8 itA_9 itA_10 itA_11 itA_12 itA_13 itA_14 itA_15 itA_16 itA_17 itA_18 itA_19 itA_20 itA_21
def simB (x y : Nat) : Bool := decide (max x y ≤ min x y + 16 ∨ (max x y - min x y - 16) * (max x y - min x y - 16) ≤ 64 * min x y)
theorem simB_comm (x y : Nat) : simB x y = simB y x := by unfold simB; rw [Nat.max_comm, Nat.min_comm]
theorem cmpV_le {x y : Nat} : decide (cmpV x y ≤ 0) = decide (x ≤ y) := by
  unfold cmpV
  split
  · simp; omega
  · split
    · simp; omega
    · simp; omega
theorem similar_lt (x y : Nat) (hx : 1 ≤ x) (h : x < y) (hy : y ≤ 70368744177664) (w : World) : Calls Tryz.prog 109 #[.int .i64 x, .int .i64 y] w fun e w' => e = .returned (.bool (simB x y)) ∧ Below w.heap.size w w' := by
  have d0 : (y : Int) - (x : Int) - 16 ≤ 0 ∨ ∃ d : Nat, (y : Int) - (x : Int) - 16 = (d : Int) ∧ 1 ≤ d ∧ d ≤ 70368744177664 := by
    by_cases h0 : (y : Int) - (x : Int) - 16 ≤ 0
    · exact .inl h0
    · exact .inr ⟨y - x - 16, by omega, by omega, by omega⟩
  have hw : IntKind.i64.wrap ((y : Int) - (x : Int) - 16) = (y : Int) - (x : Int) - 16 := by rw [IntKind.wrap_i64]; omega
  have hw2 : IntKind.i64.wrap ((y : Int) - (x : Int)) = (y : Int) - (x : Int) := by rw [IntKind.wrap_i64]; omega
  have e1 : simB x y = decide (y ≤ x + 16 ∨ (y - x - 16) * (y - x - 16) ≤ 64 * x) := by unfold simB; rw [Nat.max_eq_right (by omega), Nat.min_eq_left (by omega)]
  have r1 : decide ((x : Int) ≤ y) = true := decide_eq_true (by omega)
  have r1' : decide (x ≤ y) = true := decide_eq_true (by omega)
  have r2 : decide ((y : Int) ≤ x) = false := decide_eq_false (by omega)
  have r2' : decide (y ≤ x) = false := decide_eq_false (by omega)
  have r3 : decide ((x : Int) < y) = true := decide_eq_true (by omega)
  have r3' : decide (x < y) = true := decide_eq_true (by omega)
  have r4 : decide ((y : Int) < x) = false := decide_eq_false (by omega)
  have r4' : decide (y < x) = false := decide_eq_false (by omega)
  rcases d0 with d0 | ⟨d, hd, hd1, hd2⟩
  · have e2 : simB x y = true := by rw [e1]; exact decide_eq_true (Or.inl (by omega))
    rw [e2]
    have q0 : decide ((y : Int) - (x : Int) - 16 ≤ 0) = true := decide_eq_true d0
    clear e1 e2
    go_enter Tryz.func109, Tryz.ntmps109
    go_wp2_with fail
    go_ret
    exact ⟨rfl, Below.refl _ _⟩
  · have hd' : y - x - 16 = d := by omega
    have e2 : simB x y = decide (d * d ≤ 64 * x) := by
      rw [e1, hd']
      by_cases hh : d * d ≤ 64 * x
      · rw [decide_eq_true hh]; exact decide_eq_true (.inr hh)
      · rw [decide_eq_false hh]; exact decide_eq_false (by omega)
    have KC := Lib.hid (fun W => wcmp_any d d 64 x ⟨hd1, by omega⟩ ⟨hd1, by omega⟩ ⟨by omega, by omega⟩ ⟨hx, by omega⟩ W)
    rw [e2, ← cmpV_le]
    obtain ⟨z, hz⟩ : ∃ z, cmpV (d * d) (64 * x) = z := ⟨_, rfl⟩
    rw [hz] at KC ⊢
    have q0 : decide ((d : Int) ≤ 0) = false := decide_eq_false (by omega)
    have q1 : decide (d ≤ 0) = false := decide_eq_false (by omega)
    have q2 : (d == 0) = false := by simp; omega
    have q3 : decide (d = 0) = false := decide_eq_false (by omega)
    have hw3 : IntKind.i64.wrap (d : Int) = d := by rw [IntKind.wrap_i64]; omega
    rw [hd] at hw
    clear e1 e2 hz hd'
    go_enter Tryz.func109, Tryz.ntmps109
    go_wp2_with fail
    refine (KC.out _).mono ?_
    rintro e w1 ⟨rfl, b1⟩
    go_wp2_with fail
    go_ret
    exact ⟨rfl, b1⟩
theorem similar_gt (x y : Nat) (hx : 1 ≤ x) (h : x < y) (hy : y ≤ 70368744177664) (w : World) : Calls Tryz.prog 109 #[.int .i64 y, .int .i64 x] w fun e w' => e = .returned (.bool (simB x y)) ∧ Below w.heap.size w w' := by
  have d0 : (y : Int) - (x : Int) - 16 ≤ 0 ∨ ∃ d : Nat, (y : Int) - (x : Int) - 16 = (d : Int) ∧ 1 ≤ d ∧ d ≤ 70368744177664 := by
    by_cases h0 : (y : Int) - (x : Int) - 16 ≤ 0
    · exact .inl h0
    · exact .inr ⟨y - x - 16, by omega, by omega, by omega⟩
  have hw : IntKind.i64.wrap ((y : Int) - (x : Int) - 16) = (y : Int) - (x : Int) - 16 := by rw [IntKind.wrap_i64]; omega
  have hw2 : IntKind.i64.wrap ((y : Int) - (x : Int)) = (y : Int) - (x : Int) := by rw [IntKind.wrap_i64]; omega
  have e1 : simB x y = decide (y ≤ x + 16 ∨ (y - x - 16) * (y - x - 16) ≤ 64 * x) := by unfold simB; rw [Nat.max_eq_right (by omega), Nat.min_eq_left (by omega)]
  have r1 : decide ((x : Int) ≤ y) = true := decide_eq_true (by omega)
  have r1' : decide (x ≤ y) = true := decide_eq_true (by omega)
  have r2 : decide ((y : Int) ≤ x) = false := decide_eq_false (by omega)
  have r2' : decide (y ≤ x) = false := decide_eq_false (by omega)
  have r3 : decide ((x : Int) < y) = true := decide_eq_true (by omega)
  have r3' : decide (x < y) = true := decide_eq_true (by omega)
  have r4 : decide ((y : Int) < x) = false := decide_eq_false (by omega)
  have r4' : decide (y < x) = false := decide_eq_false (by omega)
  rcases d0 with d0 | ⟨d, hd, hd1, hd2⟩
  · have e2 : simB x y = true := by rw [e1]; exact decide_eq_true (Or.inl (by omega))
    rw [e2]
    have q0 : decide ((y : Int) - (x : Int) - 16 ≤ 0) = true := decide_eq_true d0
    clear e1 e2
    go_enter Tryz.func109, Tryz.ntmps109
    go_wp2_with fail
    go_ret
    exact ⟨rfl, Below.refl _ _⟩
  · have hd' : y - x - 16 = d := by omega
    have e2 : simB x y = decide (d * d ≤ 64 * x) := by
      rw [e1, hd']
      by_cases hh : d * d ≤ 64 * x
      · rw [decide_eq_true hh]; exact decide_eq_true (.inr hh)
      · rw [decide_eq_false hh]; exact decide_eq_false (by omega)
    have KC := Lib.hid (fun W => wcmp_any d d 64 x ⟨hd1, by omega⟩ ⟨hd1, by omega⟩ ⟨by omega, by omega⟩ ⟨hx, by omega⟩ W)
    rw [e2, ← cmpV_le]
    obtain ⟨z, hz⟩ : ∃ z, cmpV (d * d) (64 * x) = z := ⟨_, rfl⟩
    rw [hz] at KC ⊢
    have q0 : decide ((d : Int) ≤ 0) = false := decide_eq_false (by omega)
    have q1 : decide (d ≤ 0) = false := decide_eq_false (by omega)
    have q2 : (d == 0) = false := by simp; omega
    have q3 : decide (d = 0) = false := decide_eq_false (by omega)
    have hw3 : IntKind.i64.wrap (d : Int) = d := by rw [IntKind.wrap_i64]; omega
    rw [hd] at hw
    clear e1 e2 hz hd'
    go_enter Tryz.func109, Tryz.ntmps109
    go_wp2_with fail
    refine (KC.out _).mono ?_
    rintro e w1 ⟨rfl, b1⟩
    go_wp2_with fail
    go_ret
    exact ⟨rfl, b1⟩
theorem similar_eq (x : Nat) (hy : x ≤ 70368744177664) (w : World) : Calls Tryz.prog 109 #[.int .i64 x, .int .i64 x] w fun e w' => e = .returned (.bool (simB x x)) ∧ Below w.heap.size w w' := by
  have e2 : simB x x = true := by unfold simB; exact decide_eq_true (Or.inl (by omega))
  rw [e2]
  clear e2
  go_enter Tryz.func109, Tryz.ntmps109
  go_wp2_with fail
  go_ret
  exact ⟨rfl, Below.refl _ _⟩
theorem similar_any (x y : Nat) (hx : 1 ≤ x ∧ x ≤ 70368744177664) (hy : 1 ≤ y ∧ y ≤ 70368744177664) (w : World) : Calls Tryz.prog 109 #[.int .i64 x, .int .i64 y] w fun e w' => e = .returned (.bool (simB x y)) ∧ Below w.heap.size w w' := by
  rcases Nat.lt_trichotomy x y with h | h | h
  · exact similar_lt x y hx.1 h hy.2 w
  · subst h
    exact similar_eq x hx.2 w
  · rw [simB_comm]
    exact similar_gt y x hy.1 h hx.2 w
def aliB (au aw bu bw : Int) : Bool := decide (crs au aw bu bw = 0 ∧ 0 < inn au aw bu bw)
def Sm (x : Int) : Prop := -1000000000 ≤ x ∧ x ≤ 1000000000
theorem aligned_any (au aw bu bw : Int) (h1 : Sm au) (h2 : Sm aw) (h3 : Sm bu) (h4 : Sm bw) (w : World) : Calls Tryz.prog 110 #[.agg #[.int .i64 au, .int .i64 aw], .agg #[.int .i64 bu, .int .i64 bw]] w fun e w' => e = .returned (.bool (aliB au aw bu bw)) ∧ Below w.heap.size w w' := by
  have KX := Lib.hid (fun W => cross_any au aw bu bw h1 h2 h3 h4 W)
  have KI := Lib.hid (fun W => inner_any au aw bu bw h1 h2 h3 h4 W)
  unfold aliB
  obtain ⟨c, hc⟩ : ∃ c, crs au aw bu bw = c := ⟨_, rfl⟩
  obtain ⟨n, hn⟩ : ∃ c, inn au aw bu bw = c := ⟨_, rfl⟩
  rw [hc] at KX ⊢
  rw [hn] at KI ⊢
  clear hc hn h1 h2 h3 h4
  by_cases h0 : c = 0
  · subst h0
    go_enter Tryz.func110, Tryz.ntmps110
    go_wp2_with fail
    refine (KX.out _).mono ?_
    rintro e w1 ⟨rfl, b1⟩
    have sz1 := b1.size
    simp at sz1
    have P1 : Blk w1 w.heap.size 88 #[.int .i64 au, .int .i64 aw] := Blk.below (by (repeat (first | exact Blk.new _ _ _ | exact blk_new1 _ _ _ _ | exact blk_new2 _ _ _ _ _ | refine Blk.drew ?_ | refine Blk.alloc ?_ _))) b1 (by first | (simp; done) | (simp; omega))
    have P2 : Blk w1 (w.heap.size + 1) 88 #[.int .i64 bu, .int .i64 bw] := Blk.below (by (repeat (first | exact Blk.new _ _ _ | exact blk_new1 _ _ _ _ | exact blk_new2 _ _ _ _ _ | refine Blk.drew ?_ | refine Blk.alloc ?_ _))) b1 (by first | (simp; done) | (simp; omega))
    have BEL1 : Below w.heap.size w w1 := (show Below w.heap.size w _ by (repeat (first | exact Below.refl _ _ | refine Below.drew ?_ | refine Below.alloc ?_ (by first | exact Nat.le_refl _ | (simp; done) | (simp; omega)) _ | refine Below.setCell ?_ (by first | exact Nat.le_refl _ | (simp; done) | (simp; omega)) _))).trans (b1.mono (by first | (simp; done) | (simp; omega)))
    have p0 := P1.cell' 0 rfl
    have p1 := P1.cell' 1 rfl
    have q0 := P2.cell' 0 rfl
    have q1 := P2.cell' 1 rfl
    clear b1
    go_wp2_with fail
    refine (KI.out _).mono ?_
    rintro e w2 ⟨rfl, b2⟩
    go_wp2_with fail
    go_ret
    exact ⟨ret_bool (by simp), BEL1.trans (b2.mono (by omega))⟩
  · have d0 : (c == 0) = false := by simpa using h0
    have d1 : decide (c = 0) = false := decide_eq_false h0
    rw [show decide (c = 0 ∧ 0 < n) = false from decide_eq_false (fun h => h0 h.1)]
    go_enter Tryz.func110, Tryz.ntmps110
    go_wp2_with fail
    refine (KX.out _).mono ?_
    rintro e w1 ⟨rfl, b1⟩
    have BEL1 : Below w.heap.size w w1 := (show Below w.heap.size w _ by (repeat (first | exact Below.refl _ _ | refine Below.drew ?_ | refine Below.alloc ?_ (by first | exact Nat.le_refl _ | (simp; done) | (simp; omega)) _ | refine Below.setCell ?_ (by first | exact Nat.le_refl _ | (simp; done) | (simp; omega)) _))).trans (b1.mono (by first | (simp; done) | (simp; omega)))
    clear b1
    go_wp2_with fail
    go_ret
    exact ⟨rfl, BEL1⟩

/-! ### arc.Check -/
def fitB (au aw bu bw : Int) (full : Bool) : Bool :=
  decide (64 ≤ inn au aw au aw) && (decide (64 ≤ inn bu bw bu bw) && (simB (inn au aw au aw).toNat (inn bu bw bu bw).toNat && (if full then decide (au = bu ∧ aw = bw) else !(aliB au aw bu bw))))
def arcArg (i : It) : Bool := decide (i.kind = 3) && (flOk i.plane && (withB i.fx i.fy i.fz && (withB i.tx i.ty i.tz && (withB i.cx i.cy i.cz && (decide (i.dir = 1 ∨ i.dir = -1) && decide (i.fH = i.cH))))))
def arcE (i : It) : Int := if arcArg i then (if fitB (i.fU - i.cU) (i.fW - i.cW) (i.tU - i.cU) (i.tW - i.cW) i.full then 0 else 12) else 1
theorem inn_self (u v : Int) (hu : -4194304 ≤ u ∧ u ≤ 4194304) (hv : -4194304 ≤ v ∧ v ≤ 4194304) : 0 ≤ inn u v u v ∧ inn u v u v ≤ 35184372088832 := by
  have m1 := mul_bd (B := 4194304) (by decide) hu hu
  have m2 := mul_bd (B := 4194304) (by decide) hv hv
  have n1 : 0 ≤ u * u := by rcases Int.le_total 0 u with h | h; exact Int.mul_nonneg h h; exact Int.mul_nonneg_of_nonpos_of_nonpos h h
  have n2 : 0 ≤ v * v := by rcases Int.le_total 0 v with h | h; exact Int.mul_nonneg h h; exact Int.mul_nonneg_of_nonpos_of_nonpos h h
  unfold inn
  omega
theorem fl_bd {p x y z : Int} (h : withB x y z = true) : (-1048576 ≤ flU p x y z ∧ flU p x y z ≤ 1048576) ∧ (-1048576 ≤ flW p x y z ∧ flW p x y z ≤ 1048576) := by
  unfold withB at h
  simp only [Bool.and_eq_true] at h
  have h1 := insB_true h.1.1
  have h2 := insB_true h.1.2
  have h3 := insB_true h.2
  unfold flU flW
  constructor <;> (repeat' split) <;> omega
set_option maxRecDepth 100000 in
set_option maxHeartbeats 2000000 in
theorem acheck_any (i : It) (w : World) : Calls Tryz.prog 91 #[.agg (itA i)] w fun e w' => e = .returned (.int .i64 (arcE i)) ∧ Below w.heap.size w w' := by
  have KF := Lib.hid (fun W => flat_any i.plane i.fx i.fy i.fz W)
  have KC := Lib.hid (fun W => flat_any i.plane i.cx i.cy i.cz W)
  have K1 := Lib.hid (fun W => within_any i.fx i.fy i.fz W)
  have K2 := Lib.hid (fun W => within_any i.tx i.ty i.tz W)
  have K3 := Lib.hid (fun W => within_any i.cx i.cy i.cz W)
  obtain ⟨ee, he⟩ : ∃ z, arcE i = z := ⟨_, rfl⟩
  have HE := Lib.hid he
  rw [he]
  clear he
  obtain ⟨fh, hfh⟩ : ∃ b, flH i.plane i.fx i.fy i.fz = b := ⟨_, rfl⟩
  obtain ⟨ch, hch⟩ : ∃ b, flH i.plane i.cx i.cy i.cz = b := ⟨_, rfl⟩
  obtain ⟨fu, hfu⟩ : ∃ b, flU i.plane i.fx i.fy i.fz = b := ⟨_, rfl⟩
  obtain ⟨fw, hfw⟩ : ∃ b, flW i.plane i.fx i.fy i.fz = b := ⟨_, rfl⟩
  obtain ⟨cu, hcu⟩ : ∃ b, flU i.plane i.cx i.cy i.cz = b := ⟨_, rfl⟩
  obtain ⟨cw, hcw⟩ : ∃ b, flW i.plane i.cx i.cy i.cz = b := ⟨_, rfl⟩
  obtain ⟨ok, hok⟩ : ∃ b, flOk i.plane = b := ⟨_, rfl⟩
  rw [hfh, hfu, hfw, hok] at KF
  rw [hch, hcu, hcw, hok] at KC
  have HOK := Lib.hid hok
  have HFH := Lib.hid hfh
  have HCH := Lib.hid hch
  obtain ⟨g1, hg1⟩ : ∃ b, withB i.fx i.fy i.fz = b := ⟨_, rfl⟩
  obtain ⟨g2, hg2⟩ : ∃ b, withB i.tx i.ty i.tz = b := ⟨_, rfl⟩
  obtain ⟨g3, hg3⟩ : ∃ b, withB i.cx i.cy i.cz = b := ⟨_, rfl⟩
  rw [hg1] at K1
  rw [hg2] at K2
  rw [hg3] at K3
  have G1 := Lib.hid hg1
  have G2 := Lib.hid hg2
  have G3 := Lib.hid hg3
  clear hfh hch hfu hfw hcu hcw hok hg1 hg2 hg3
  go_enter Tryz.func91, Tryz.ntmps91
  go_wp2_with fail
  refine (KF.out _).mono ?_
  rintro e w1 ⟨rfl, b1⟩
  have sz1 := b1.size
  simp at sz1
  have l1 : w.heap.size < w1.heap.size := by omega
  have I1 : ItAt w1 w.heap.size i := ItAt.below (show ItAt _ w.heap.size i from by unfold ItAt; (repeat (first | exact Blk.new _ _ _ | exact blk_new1 _ _ _ _ | exact blk_new2 _ _ _ _ _ | refine Blk.drew ?_ | refine Blk.alloc ?_ _))) b1
  have BEL1 : Below w.heap.size w w1 := (show Below w.heap.size w _ by (repeat (first | exact Below.refl _ _ | refine Below.drew ?_ | refine Below.alloc ?_ (by first | exact Nat.le_refl _ | (simp; done) | (simp; omega)) _ | refine Below.setCell ?_ (by first | exact Nat.le_refl _ | (simp; done) | (simp; omega)) _))).trans (b1.mono (by first | (simp; done) | (simp; omega)))
  have c8 := I1.c8
  have c9 := I1.c9
  have c10 := I1.c10
  have c11 := I1.c11
  clear b1
  go_wp2_with fail
  refine (KC.out _).mono ?_
  rintro e w2 ⟨rfl, b2⟩
  have sz2 := b2.size
  simp at sz2
  have l2 : w.heap.size < w2.heap.size := by omega
  have I2 : ItAt w2 w.heap.size i := ItAt.below (show ItAt _ w.heap.size i from (Blk.alloc I1 _)) b2
  have BEL2 : Below w.heap.size w w2 := (BEL1.alloc (by omega) _).trans (b2.mono (by simp; omega))
  clear b2 c8 c9 c10 c11 I1 BEL1
  have c0 := I2.c0
  have c2 := I2.c2
  have c3 := I2.c3
  have c4 := I2.c4
  by_cases hk : i.kind = 3
  · rw [hk] at c0
    have HK := Lib.hid hk
    clear hk
    cases ok
    · skip
      have E : arcE i = 1 := by unfold arcE; rw [if_neg]; simp [arcArg, HOK.out]
      rw [HE.out] at E
      subst E
      go_wp2_with fail
      go_ret
      exact ⟨rfl, by first | exact BEL2 | exact Below.alloc BEL2 (by omega) _⟩
    · go_wp2_with fail
      refine (K1.out _).mono ?_
      rintro e w3 ⟨rfl, b3⟩
      have sz3 := b3.size
      simp at sz3
      have l3 : w.heap.size < w3.heap.size := by omega
      have I3 : ItAt w3 w.heap.size i := ItAt.below (show ItAt _ w.heap.size i from (Blk.alloc I2 _)) b3
      have BEL3 : Below w.heap.size w w3 := (BEL2.alloc (by omega) _).trans (b3.mono (by simp; omega))
      clear b3 c0 c2 c3 c4 I2 BEL2
      have c5 := I3.c5
      have c6 := I3.c6
      have c7 := I3.c7
      cases g1
      · skip
        have E : arcE i = 1 := by unfold arcE; rw [if_neg]; simp [arcArg, G1.out]
        rw [HE.out] at E
        subst E
        go_wp2_with fail
        go_ret
        exact ⟨rfl, by first | exact BEL3 | exact Below.alloc BEL3 (by omega) _⟩
      go_wp2_with fail
      refine (K2.out _).mono ?_
      rintro e w4 ⟨rfl, b4⟩
      have sz4 := b4.size
      have l4 : w.heap.size < w4.heap.size := by omega
      have I4 : ItAt w4 w.heap.size i := ItAt.below I3 b4
      have BEL4 : Below w.heap.size w w4 := BEL3.trans (b4.mono (by omega))
      clear b4 c5 c6 c7 I3 BEL3
      have c9 := I4.c9
      have c10 := I4.c10
      have c11 := I4.c11
      cases g2
      · skip
        have E : arcE i = 1 := by unfold arcE; rw [if_neg]; simp [arcArg, G2.out]
        rw [HE.out] at E
        subst E
        go_wp2_with fail
        go_ret
        exact ⟨rfl, by first | exact BEL4 | exact Below.alloc BEL4 (by omega) _⟩
      go_wp2_with fail
      refine (K3.out _).mono ?_
      rintro e w5 ⟨rfl, b5⟩
      have sz5 := b5.size
      have l5 : w.heap.size < w5.heap.size := by omega
      have I5 : ItAt w5 w.heap.size i := ItAt.below I4 b5
      have BEL5 : Below w.heap.size w w5 := BEL4.trans (b5.mono (by omega))
      clear b5 c9 c10 c11 I4 BEL4
      have c12 := I5.c12
      cases g3
      · skip
        have E : arcE i = 1 := by unfold arcE; rw [if_neg]; simp [arcArg, G3.out]
        rw [HE.out] at E
        subst E
        go_wp2_with fail
        go_ret
        exact ⟨rfl, by first | exact BEL5 | exact Below.alloc BEL5 (by omega) _⟩
      have hd : i.dir = 1 ∨ i.dir = -1 ∨ (i.dir ≠ 1 ∧ i.dir ≠ -1) := by omega
      have KS := Lib.hid (fun W => spokes_any i W)
      have hEE : fh = ch → (i.dir = 1 ∨ i.dir = -1) → ee = if fitB (i.fU - i.cU) (i.fW - i.cW) (i.tU - i.cU) (i.tW - i.cW) i.full then 0 else 12 := by
        intro h1 h2
        rw [← HE.out]
        unfold arcE
        rw [if_pos]
        unfold arcArg
        have h3 : i.fH = i.cH := HFH.out.trans (h1.trans HCH.out.symm)
        simp [HK.out, HOK.out, G1.out, G2.out, G3.out, h2, h3]
      have hF := fl_bd (p := i.plane) G1.out
      have hT := fl_bd (p := i.plane) G2.out
      have hC := fl_bd (p := i.plane) G3.out
      obtain ⟨au, hau⟩ : ∃ z, i.fU - i.cU = z := ⟨_, rfl⟩
      obtain ⟨aw, haw⟩ : ∃ z, i.fW - i.cW = z := ⟨_, rfl⟩
      obtain ⟨bu, hbu⟩ : ∃ z, i.tU - i.cU = z := ⟨_, rfl⟩
      obtain ⟨bw, hbw⟩ : ∃ z, i.tW - i.cW = z := ⟨_, rfl⟩
      have A1 : -4194304 ≤ au ∧ au ≤ 4194304 := by unfold It.fU It.cU at hau; omega
      have A2 : -4194304 ≤ aw ∧ aw ≤ 4194304 := by unfold It.fW It.cW at haw; omega
      have A3 : -4194304 ≤ bu ∧ bu ≤ 4194304 := by unfold It.tU It.cU at hbu; omega
      have A4 : -4194304 ≤ bw ∧ bw ≤ 4194304 := by unfold It.tW It.cW at hbw; omega
      rw [hau, haw, hbu, hbw] at hEE
      have s1 : wS i.fU i.cU = au := by rw [wS_eq (by omega)]; exact hau
      have s2 : wS i.fW i.cW = aw := by rw [wS_eq (by omega)]; exact haw
      have s3 : wS i.tU i.cU = bu := by rw [wS_eq (by omega)]; exact hbu
      have s4 : wS i.tW i.cW = bw := by rw [wS_eq (by omega)]; exact hbw
      rw [s1, s2, s3, s4] at KS
      have HEE := Lib.hid hEE
      clear hEE hF hT hC hau haw hbu hbw s1 s2 s3 s4
      rcases hd with hd | hd | ⟨hd1, hd2⟩
      rotate_left 2
      · have k1 : (i.dir == 1) = false := by simpa using hd1
        have k2 : (i.dir == -1) = false := by simpa using hd2
        have E : arcE i = 1 := by unfold arcE; rw [if_neg]; simp [arcArg, hd1, hd2]
        rw [HE.out] at E
        subst E
        go_wp2_with fail
        go_ret
        exact ⟨rfl, BEL5⟩
      all_goals
        have HEE := Lib.hid (fun h => HEE.out h (by omega))
        rw [hd] at c12
        by_cases hfc : fh = ch
        · have hEE := HEE.out hfc
          subst hfc
          have I5' : w5.heap[w.heap.size]? = some (.cells (itA i) 25 (0, 0)) := I5
          clear HEE
          go_wp2_with (first
            | ((with_reducible refine go_load_row 25 (.tmp 1) w.heap.size 25 (itA i) _ rfl I5' Tryz.underlying25 rfl (by kernel_rfl) ?_)))
          refine (KS.out _).mono ?_
          rintro e w6 ⟨rfl, b6⟩
          have sz6 := b6.size
          have l6 : w.heap.size < w6.heap.size := by omega
          have I6 : ItAt w6 w.heap.size i := ItAt.below I5 b6
          have BEL6 : Below w.heap.size w w6 := BEL5.trans (b6.mono (by omega))
          clear b6 I5 BEL5 I5' c12 KS
          go_wp2_with fail
          refine wp_told (fun W => ItAt W w.heap.size i ∧ Blk W w6.heap.size 88 #[.int .i64 au, .int .i64 aw] ∧ Blk W (w6.heap.size + 1) 88 #[.int .i64 bu, .int .i64 bw] ∧ Below w.heap.size w W ∧ w6.heap.size + 2 ≤ W.heap.size) ⟨Blk.alloc (Blk.alloc I6 _) _, (Blk.new _ _ _).alloc _, blk_new1 _ _ _ _, (BEL6.alloc (by omega) _).alloc (by simp; omega) _, by simp⟩ ?_
          clear I6 BEL6
          rintro W7 ⟨I7, P7, Q7, BEL7, sz7⟩
          obtain ⟨hx0, hx1⟩ := inn_self au aw A1 A2
          obtain ⟨hy0, hy1⟩ := inn_self bu bw A3 A4
          have KI1 := fun W => inner_any au aw au aw (by omega) (by omega) (by omega) (by omega) W
          have KI2 := fun W => inner_any bu bw bu bw (by omega) (by omega) (by omega) (by omega) W
          have KAL := Lib.hid (fun W => aligned_any au aw bu bw (by unfold Sm; omega) (by unfold Sm; omega) (by unfold Sm; omega) (by unfold Sm; omega) W)
          obtain ⟨xn, hxn⟩ := Int.eq_ofNat_of_zero_le hx0
          obtain ⟨yn, hyn⟩ := Int.eq_ofNat_of_zero_le hy0
          unfold fitB at hEE
          rw [hxn] at KI1 hEE hx1
          rw [hyn] at KI2 hEE hy1
          simp only [Int.toNat_natCast] at hEE
          have HEE := Lib.hid hEE
          let S : World → Prop := fun W => Below W7.heap.size W7 W
          have hs : S W7.drew := (Below.refl _ _).drew
          have inst : Nonempty (At S) := ⟨⟨_, hs⟩⟩
          have HKA1 := Lib.hid (fun q : At S => (KI1 q.w).mono (fun e w' h => (⟨h.1, q.ok.trans (h.2.mono q.ok.size)⟩ : e = .returned (.int .i64 (xn : Int)) ∧ S w')))
          have HKA2 := Lib.hid (fun q : At S => (KI2 q.w).mono (fun e w' h => (⟨h.1, q.ok.trans (h.2.mono q.ok.size)⟩ : e = .returned (.int .i64 (yn : Int)) ∧ S w')))
          have p0 : ∀ q : At S, q.w.cell? ⟨w6.heap.size, 0, none⟩ = some (.int .i64 au) := fun q => (q.ok.cell (p := ⟨w6.heap.size, 0, none⟩) P7.lt).trans (P7.cell' 0 rfl)
          have p1 : ∀ q : At S, q.w.cell? ⟨w6.heap.size, 1, none⟩ = some (.int .i64 aw) := fun q => (q.ok.cell (p := ⟨w6.heap.size, 1, none⟩) P7.lt).trans (P7.cell' 1 rfl)
          have q0 : ∀ q : At S, q.w.cell? ⟨w6.heap.size + 1, 0, none⟩ = some (.int .i64 bu) := fun q => (q.ok.cell (p := ⟨w6.heap.size + 1, 0, none⟩) Q7.lt).trans (Q7.cell' 0 rfl)
          have q1 : ∀ q : At S, q.w.cell? ⟨w6.heap.size + 1, 1, none⟩ = some (.int .i64 bw) := fun q => (q.ok.cell (p := ⟨w6.heap.size + 1, 1, none⟩) Q7.lt).trans (Q7.cell' 1 rfl)
          have HFIN := Lib.hid (fun q : At S => (⟨ItAt.below I7 q.ok, P7.below q.ok P7.lt, Q7.below q.ok Q7.lt, BEL7.trans (q.ok.mono BEL7.size), q.ok.size⟩ : ItAt q.w w.heap.size i ∧ Blk q.w w6.heap.size 88 #[.int .i64 au, .int .i64 aw] ∧ Blk q.w (w6.heap.size + 1) 88 #[.int .i64 bu, .int .i64 bw] ∧ Below w.heap.size w q.w ∧ W7.heap.size ≤ q.w.heap.size))
          clear KI1 KI2 I7 P7 Q7 BEL7 hEE hx0 hy0 hxn hyn A1 A2 A3 A4
          clear_value S
          refine wp_region_at S (by kernel_rfl) (by kernel_rfl) hs ?_
          repeat go_big_quiet_step (first | with_reducible exact Calls.at_of (HKA1.out _) fun e w' h => ⟨h.1, h.2⟩ | with_reducible exact Calls.at_of (HKA2.out _) fun e w' h => ⟨h.1, h.2⟩)
          refine wpQuiet_nil ?_
          rintro _ ⟨p, rfl⟩
          obtain ⟨I8, P8, Q8, BEL8, sz8⟩ := HFIN.out p
          clear p0 p1 q0 q1
          generalize p.w = W8 at I8 P8 Q8 BEL8 sz8 ⊢
          clear HKA1 HKA2 HFIN inst p hs
          have c13 := I8.c13
          by_cases hx64 : xn < 64
          · have t1 : decide (xn < 64) = true := decide_eq_true hx64
            have t1' : decide ((xn : Int) < 64) = true := decide_eq_true (by omega)
            have Fxn : decide ((64 : Int) ≤ (xn : Int)) = false := decide_eq_false (by omega)
            have EE : ee = 12 := by rw [HEE.out, Fxn]; rfl
            subst EE
            go_wp2_with fail
            go_ret
            exact ⟨rfl, BEL8⟩
          have t1 : decide (xn < 64) = false := decide_eq_false hx64
          have t1' : decide ((xn : Int) < 64) = false := decide_eq_false (by omega)
          by_cases hy64 : yn < 64
          · have t2 : decide (yn < 64) = true := decide_eq_true hy64
            have t2' : decide ((yn : Int) < 64) = true := decide_eq_true (by omega)
            have Fxn : decide ((64 : Int) ≤ (xn : Int)) = true := decide_eq_true (by omega)
            have Fyn : decide ((64 : Int) ≤ (yn : Int)) = false := decide_eq_false (by omega)
            have EE : ee = 12 := by rw [HEE.out, Fxn, Fyn]; rfl
            subst EE
            go_wp2_with fail
            go_ret
            exact ⟨rfl, BEL8⟩
          have t2 : decide (yn < 64) = false := decide_eq_false hy64
          have t2' : decide ((yn : Int) < 64) = false := decide_eq_false (by omega)
          have HX64 := Lib.hid (show (64 : Int) ≤ (xn : Int) from by omega)
          have HY64 := Lib.hid (show (64 : Int) ≤ (yn : Int) from by omega)
          have KSM := Lib.hid (fun W => similar_any xn yn ⟨by omega, by omega⟩ ⟨by omega, by omega⟩ W)
          obtain ⟨sb, hsb⟩ : ∃ b, simB xn yn = b := ⟨_, rfl⟩
          rw [hsb] at KSM
          have HSB := Lib.hid hsb
          clear hsb
          go_wp2_with fail
          refine (KSM.out _).mono ?_
          rintro e w9 ⟨rfl, b9⟩
          have sz9 := b9.size
          have I9 : ItAt w9 w.heap.size i := ItAt.below I8 b9
          have P9 := P8.below b9 P8.lt
          have Q9 := Q8.below b9 Q8.lt
          have BEL9 : Below w.heap.size w w9 := BEL8.trans (b9.mono BEL8.size)
          clear b9 I8 P8 Q8 BEL8 c13
          have c13 := I9.c13
          have p0 := P9.cell' 0 rfl
          have p1 := P9.cell' 1 rfl
          have q0 := Q9.cell' 0 rfl
          have q1 := Q9.cell' 1 rfl
          cases sb
          · skip
            have EE : ee = 12 := by rw [HEE.out]; simp [HX64.out, HY64.out, HSB.out]
            subst EE
            go_wp2_with fail
            go_ret
            exact ⟨rfl, BEL9⟩
          obtain ⟨fb, hfb⟩ : ∃ b, i.full = b := ⟨_, rfl⟩
          rw [hfb] at c13
          have HFB := Lib.hid hfb
          clear hfb
          cases fb
          · obtain ⟨ab, hab⟩ : ∃ b, aliB au aw bu bw = b := ⟨_, rfl⟩
            rw [hab] at KAL
            have HAB := Lib.hid hab
            clear hab
            go_wp2_with fail
            refine (KAL.out _).mono ?_
            rintro e wA ⟨rfl, bA⟩
            have BELA : Below w.heap.size w wA := BEL9.trans (bA.mono BEL9.size)
            clear bA
            cases ab
            · skip
              have EE : ee = 0 := by rw [HEE.out]; simp [HX64.out, HY64.out, HSB.out, HFB.out, HAB.out]
              subst EE
              go_wp2_with fail
              go_ret
              exact ⟨rfl, BELA⟩
            · skip
              have EE : ee = 12 := by rw [HEE.out]; simp [HX64.out, HY64.out, HSB.out, HFB.out, HAB.out]
              subst EE
              go_wp2_with fail
              go_ret
              exact ⟨rfl, BELA⟩
          · by_cases e1 : au = bu
            · by_cases e2 : aw = bw
              · subst e1 e2
                have EE : ee = 0 := by rw [HEE.out]; simp [HX64.out, HY64.out, HSB.out, HFB.out]
                subst EE
                go_wp2_with fail
                go_ret
                exact ⟨rfl, BEL9⟩
              · have t3 : (aw == bw) = false := by simpa using e2
                subst e1
                have E2 := Lib.hid e2
                have EE : ee = 12 := by rw [HEE.out]; simp [HX64.out, HY64.out, HSB.out, HFB.out, E2.out]
                subst EE
                go_wp2_with fail
                go_ret
                exact ⟨rfl, BEL9⟩
            · have t3 : (au == bu) = false := by simpa using e1
              have E1 := Lib.hid e1
              have EE : ee = 12 := by rw [HEE.out]; simp [HX64.out, HY64.out, HSB.out, HFB.out, E1.out]
              subst EE
              go_wp2_with fail
              go_ret
              exact ⟨rfl, BEL9⟩
        · have k1 : (fh == ch) = false := by simpa using hfc
          have E : arcE i = 1 := by
            have : ¬ i.fH = i.cH := fun h => hfc (HFH.out.symm.trans (h.trans HCH.out))
            unfold arcE; rw [if_neg]; simp [arcArg, this]
          rw [HE.out] at E
          subst E
          go_wp2_with fail
          go_ret
          exact ⟨rfl, BEL5⟩
  · have k0 : (i.kind == 3) = false := by simpa using hk
    have E : arcE i = 1 := by unfold arcE; rw [if_neg]; simp [arcArg, hk]
    rw [HE.out] at E
    subst E
    go_wp2_with fail
    go_ret
    exact ⟨rfl, by first | exact BEL2 | exact Below.alloc BEL2 (by omega) _⟩
end Go.Proofs.YtefdjdipbnnoaaaGreatDoor

/-
  vec and cncref04: the small functions, any numbers (sums and products where they fit).
-/
import Derived.Test.YtefdjdipbnnoaaaGreatDoorWide17
namespace Go.Proofs.YtefdjdipbnnoaaaGreatDoor
open Go Go.RowKit
set_option linter.unusedVariables false

theorem blk_new1 (w : World) (o : Obj) (t : TypeId) (cs : Array Value) : Blk ((w.alloc o).alloc (.cells cs t)) (w.heap.size + 1) t cs := by
  have h := Blk.new (w.alloc o) t cs
  have e : (w.alloc o).heap.size = w.heap.size + 1 := by simp
  rwa [e] at h
theorem blk_new2 (w : World) (o o2 : Obj) (t : TypeId) (cs : Array Value) : Blk (((w.alloc o).alloc o2).alloc (.cells cs t)) (w.heap.size + 2) t cs := by
  have h := blk_new1 (w.alloc o) o2 t cs
  have e : (w.alloc o).heap.size = w.heap.size + 1 := by simp
  rwa [e] at h
def insB (n : Int) : Bool := decide (-1048576 ≤ n ∧ n ≤ 1048576)
def withB (x y z : Int) : Bool := insB x && insB y && insB z
def vecA (x y z : Int) : Array Value := #[.int .i64 x, .int .i64 y, .int .i64 z]
def ptA (u v : Int) : Array Value := #[.int .i64 u, .int .i64 v]
def flOk (p : Int) : Bool := decide (p = 17 ∨ p = 18 ∨ p = 19)
def flU (p x y z : Int) : Int := if p = 17 then x else if p = 18 then z else if p = 19 then y else 0
def flW (p x y z : Int) : Int := if p = 17 then y else if p = 18 then x else if p = 19 then z else 0
def flH (p x y z : Int) : Int := if p = 17 then z else if p = 18 then y else if p = 19 then x else 0
theorem insB_true {n : Int} (h : insB n = true) : -1048576 ≤ n ∧ n ≤ 1048576 := by unfold insB at h; exact of_decide_eq_true h
theorem insB_false {n : Int} (h : insB n = false) : ¬ (-1048576 ≤ n ∧ n ≤ 1048576) := by unfold insB at h; exact of_decide_eq_false h

theorem vinside_any (n : Int) (w : World) : Calls Tryz.prog 108 #[.int .i64 n] w fun e w' => e = .returned (.bool (insB n)) ∧ w = w' := by
  have hc : (-1048576 ≤ n ∧ n ≤ 1048576) ∨ n < -1048576 ∨ (-1048576 ≤ n ∧ 1048576 < n) := by omega
  rcases hc with ⟨h1, h2⟩ | h1 | ⟨h1, h2⟩
  · rw [show insB n = true from decide_eq_true ⟨h1, h2⟩]
    go_enter Tryz.func108, Tryz.ntmps108
    go_wp2_with fail
    go_ret
    exact ⟨rfl, rfl⟩
  all_goals
    rw [show insB n = false from decide_eq_false (by omega)]
    go_enter Tryz.func108, Tryz.ntmps108
    go_wp2_with fail
    go_ret
    exact ⟨ret_bool (by first | rfl | (simp; omega)), rfl⟩
theorem rin_any (n m : Int) (hm : 0 ≤ m ∧ m ≤ 4611686018427387904) (w : World) : Calls Tryz.prog 87 #[.int .i64 n, .int .i64 m] w fun e w' => e = .returned (.bool (decide (-m ≤ n ∧ n ≤ m))) ∧ w = w' := by
  have hw : IntKind.i64.wrap (-m) = -m := by rw [IntKind.wrap_i64]; omega
  have hc : (-m ≤ n ∧ n ≤ m) ∨ n < -m ∨ (-m ≤ n ∧ m < n) := by omega
  rcases hc with ⟨h1, h2⟩ | h1 | ⟨h1, h2⟩
  · rw [decide_eq_true (show -m ≤ n ∧ n ≤ m from ⟨h1, h2⟩)]
    go_enter Tryz.func87, Tryz.ntmps87
    go_wp2_with fail
    go_ret
    exact ⟨rfl, rfl⟩
  all_goals
    rw [decide_eq_false (show ¬ (-m ≤ n ∧ n ≤ m) by omega)]
    go_enter Tryz.func87, Tryz.ntmps87
    go_wp2_with fail
    go_ret
    exact ⟨ret_bool (by first | rfl | (simp; omega)), rfl⟩
theorem rin_ins (n : Int) (w : World) : Calls Tryz.prog 87 #[.int .i64 n, .int .i64 1048576] w fun e w' => e = .returned (.bool (insB n)) ∧ w = w' := rin_any n 1048576 (by decide) w

theorem within_any (x y z : Int) (w : World) : Calls Tryz.prog 89 #[.agg #[.int .i64 x, .int .i64 y, .int .i64 z]] w fun e w' => e = .returned (.bool (withB x y z)) ∧ Below w.heap.size w w' := by
  have BEL := Lib.hid ((Below.refl w.heap.size w).alloc (Nat.le_refl _) (.cells #[.int .i64 x, .int .i64 y, .int .i64 z] 23))
  have K1 := Lib.hid (fun W => vinside_any x W)
  have K2 := Lib.hid (fun W => vinside_any y W)
  have K3 := Lib.hid (fun W => vinside_any z W)
  unfold withB
  obtain ⟨b1, h1⟩ : ∃ b, insB x = b := ⟨_, rfl⟩
  obtain ⟨b2, h2⟩ : ∃ b, insB y = b := ⟨_, rfl⟩
  obtain ⟨b3, h3⟩ : ∃ b, insB z = b := ⟨_, rfl⟩
  rw [h1] at K1 ⊢
  rw [h2] at K2 ⊢
  rw [h3] at K3 ⊢
  clear h1 h2 h3
  cases b1
  · go_enter Tryz.func89, Tryz.ntmps89
    go_wp2_with fail
    refine (K1.out _).mono ?_
    rintro e w' ⟨rfl, rfl⟩
    go_wp2_with fail
    go_ret
    exact ⟨rfl, BEL.out⟩
  · cases b2
    · go_enter Tryz.func89, Tryz.ntmps89
      go_wp2_with fail
      refine (K1.out _).mono ?_
      rintro e w' ⟨rfl, rfl⟩
      go_wp2_with fail
      refine (K2.out _).mono ?_
      rintro e w' ⟨rfl, rfl⟩
      go_wp2_with fail
      go_ret
      exact ⟨rfl, BEL.out⟩
    · go_enter Tryz.func89, Tryz.ntmps89
      go_wp2_with fail
      refine (K1.out _).mono ?_
      rintro e w' ⟨rfl, rfl⟩
      go_wp2_with fail
      refine (K2.out _).mono ?_
      rintro e w' ⟨rfl, rfl⟩
      go_wp2_with fail
      refine (K3.out _).mono ?_
      rintro e w' ⟨rfl, rfl⟩
      go_wp2_with fail
      go_ret
      exact ⟨by simp, BEL.out⟩

theorem rwithin_any (x y z : Int) (w : World) : Calls Tryz.prog 51 #[.agg #[.int .i64 x, .int .i64 y, .int .i64 z]] w fun e w' => e = .returned (.bool (withB x y z)) ∧ Below w.heap.size w w' := by
  have BEL := Lib.hid ((Below.refl w.heap.size w).alloc (Nat.le_refl _) (.cells #[.int .i64 x, .int .i64 y, .int .i64 z] 23))
  have K1 := Lib.hid (fun W => rin_ins x W)
  have K2 := Lib.hid (fun W => rin_ins y W)
  have K3 := Lib.hid (fun W => rin_ins z W)
  unfold withB
  obtain ⟨b1, h1⟩ : ∃ b, insB x = b := ⟨_, rfl⟩
  obtain ⟨b2, h2⟩ : ∃ b, insB y = b := ⟨_, rfl⟩
  obtain ⟨b3, h3⟩ : ∃ b, insB z = b := ⟨_, rfl⟩
  rw [h1] at K1 ⊢
  rw [h2] at K2 ⊢
  rw [h3] at K3 ⊢
  clear h1 h2 h3
  cases b1
  · go_enter Tryz.func51, Tryz.ntmps51
    go_wp2_with fail
    refine (K1.out _).mono ?_
    rintro e w' ⟨rfl, rfl⟩
    go_wp2_with fail
    go_ret
    exact ⟨rfl, BEL.out⟩
  · cases b2
    · go_enter Tryz.func51, Tryz.ntmps51
      go_wp2_with fail
      refine (K1.out _).mono ?_
      rintro e w' ⟨rfl, rfl⟩
      go_wp2_with fail
      refine (K2.out _).mono ?_
      rintro e w' ⟨rfl, rfl⟩
      go_wp2_with fail
      go_ret
      exact ⟨rfl, BEL.out⟩
    · go_enter Tryz.func51, Tryz.ntmps51
      go_wp2_with fail
      refine (K1.out _).mono ?_
      rintro e w' ⟨rfl, rfl⟩
      go_wp2_with fail
      refine (K2.out _).mono ?_
      rintro e w' ⟨rfl, rfl⟩
      go_wp2_with fail
      refine (K3.out _).mono ?_
      rintro e w' ⟨rfl, rfl⟩
      go_wp2_with fail
      go_ret
      exact ⟨by simp, BEL.out⟩

set_option maxHeartbeats 1000000 in
theorem flat_any (p x y z : Int) (w : World) : Calls Tryz.prog 60 #[.int .i64 p, .agg #[.int .i64 x, .int .i64 y, .int .i64 z]] w fun e w' => e = .returned (.tuple #[.agg #[.int .i64 (flU p x y z), .int .i64 (flW p x y z)], .int .i64 (flH p x y z), .bool (flOk p)]) ∧ Below w.heap.size w w' := by
  have hc : p = 17 ∨ p = 18 ∨ p = 19 ∨ (p ≠ 17 ∧ p ≠ 18 ∧ p ≠ 19) := by omega
  rcases hc with rfl | rfl | rfl | ⟨h1, h2, h3⟩
  · go_enter Tryz.func60, Tryz.ntmps60
    go_wp2_with fail
    go_region_held3 (fun w' => w'.cell? ⟨w.heap.size, 0, none⟩ = some (.int .i64 x) ∧ w'.cell? ⟨w.heap.size, 1, none⟩ = some (.int .i64 y) ∧ w'.cell? ⟨w.heap.size, 2, none⟩ = some (.int .i64 z)) (go_keep) (fail)
    all_goals
      go_wp2_with fail
      refine bodyPost_ret (results_ctt rfl rfl (show Blk _ (w.heap.size + 1) 88 #[.int .i64 x, .int .i64 y] from (by (repeat (first | exact Blk.new _ _ _ | exact blk_new1 _ _ _ _ | exact blk_new2 _ _ _ _ _ | refine Blk.drew ?_ | refine Blk.alloc ?_ _)))) Tryz.underlying88 rfl (by kernel_rfl)) rfl ?_
      exact ⟨rfl, by (repeat (first | exact Below.refl _ _ | refine Below.drew ?_ | refine Below.alloc ?_ (by first | exact Nat.le_refl _ | (simp; done) | (simp; omega)) _ | refine Below.setCell ?_ (by first | exact Nat.le_refl _ | (simp; done) | (simp; omega)) _))⟩
  · go_enter Tryz.func60, Tryz.ntmps60
    go_wp2_with fail
    go_region_held3 (fun w' => w'.cell? ⟨w.heap.size, 0, none⟩ = some (.int .i64 x) ∧ w'.cell? ⟨w.heap.size, 1, none⟩ = some (.int .i64 y) ∧ w'.cell? ⟨w.heap.size, 2, none⟩ = some (.int .i64 z)) (go_keep) (fail)
    all_goals
      go_wp2_with fail
      refine bodyPost_ret (results_ctt rfl rfl (show Blk _ (w.heap.size + 1) 88 #[.int .i64 z, .int .i64 x] from (by (repeat (first | exact Blk.new _ _ _ | exact blk_new1 _ _ _ _ | exact blk_new2 _ _ _ _ _ | refine Blk.drew ?_ | refine Blk.alloc ?_ _)))) Tryz.underlying88 rfl (by kernel_rfl)) rfl ?_
      exact ⟨rfl, by (repeat (first | exact Below.refl _ _ | refine Below.drew ?_ | refine Below.alloc ?_ (by first | exact Nat.le_refl _ | (simp; done) | (simp; omega)) _ | refine Below.setCell ?_ (by first | exact Nat.le_refl _ | (simp; done) | (simp; omega)) _))⟩
  · go_enter Tryz.func60, Tryz.ntmps60
    go_wp2_with fail
    go_region_held3 (fun w' => w'.cell? ⟨w.heap.size, 0, none⟩ = some (.int .i64 x) ∧ w'.cell? ⟨w.heap.size, 1, none⟩ = some (.int .i64 y) ∧ w'.cell? ⟨w.heap.size, 2, none⟩ = some (.int .i64 z)) (go_keep) (fail)
    all_goals
      go_wp2_with fail
      refine bodyPost_ret (results_ctt rfl rfl (show Blk _ (w.heap.size + 1) 88 #[.int .i64 y, .int .i64 z] from (by (repeat (first | exact Blk.new _ _ _ | exact blk_new1 _ _ _ _ | exact blk_new2 _ _ _ _ _ | refine Blk.drew ?_ | refine Blk.alloc ?_ _)))) Tryz.underlying88 rfl (by kernel_rfl)) rfl ?_
      exact ⟨rfl, by (repeat (first | exact Below.refl _ _ | refine Below.drew ?_ | refine Below.alloc ?_ (by first | exact Nat.le_refl _ | (simp; done) | (simp; omega)) _ | refine Below.setCell ?_ (by first | exact Nat.le_refl _ | (simp; done) | (simp; omega)) _))⟩
  · have d1 : (p == 17) = false := by simpa using h1
    have d2 : (p == 18) = false := by simpa using h2
    have d3 : (p == 19) = false := by simpa using h3
    have e1 : flU p x y z = 0 := by unfold flU; rw [if_neg h1, if_neg h2, if_neg h3]
    have e2 : flW p x y z = 0 := by unfold flW; rw [if_neg h1, if_neg h2, if_neg h3]
    have e3 : flH p x y z = 0 := by unfold flH; rw [if_neg h1, if_neg h2, if_neg h3]
    have e4 : flOk p = false := decide_eq_false (by omega)
    rw [e1, e2, e3, e4]
    clear e1 e2 e3 e4
    go_enter Tryz.func60, Tryz.ntmps60
    go_wp2_with fail
    refine bodyPost_ret (results_ctt rfl rfl (show Blk _ (w.heap.size + 1) 88 #[.int .i64 0, .int .i64 0] from (by (repeat (first | exact Blk.new _ _ _ | exact blk_new1 _ _ _ _ | exact blk_new2 _ _ _ _ _ | refine Blk.drew ?_ | refine Blk.alloc ?_ _)))) Tryz.underlying88 rfl (by kernel_rfl)) rfl ?_
    exact ⟨rfl, by (repeat (first | exact Below.refl _ _ | refine Below.drew ?_ | refine Below.alloc ?_ (by first | exact Nat.le_refl _ | (simp; done) | (simp; omega)) _ | refine Below.setCell ?_ (by first | exact Nat.le_refl _ | (simp; done) | (simp; omega)) _))⟩

set_option maxHeartbeats 1000000 in
theorem rflat_any (p x y z : Int) (w : World) : Calls Tryz.prog 98 #[.int .i64 p, .agg #[.int .i64 x, .int .i64 y, .int .i64 z]] w fun e w' => e = .returned (.tuple #[.agg #[.int .i64 (flU p x y z), .int .i64 (flW p x y z)], .int .i64 (flH p x y z), .bool (flOk p)]) ∧ Below w.heap.size w w' := by
  have hc : p = 17 ∨ p = 18 ∨ p = 19 ∨ (p ≠ 17 ∧ p ≠ 18 ∧ p ≠ 19) := by omega
  rcases hc with rfl | rfl | rfl | ⟨h1, h2, h3⟩
  · go_enter Tryz.func98, Tryz.ntmps98
    go_wp2_with fail
    go_region_held3 (fun w' => w'.cell? ⟨w.heap.size, 0, none⟩ = some (.int .i64 x) ∧ w'.cell? ⟨w.heap.size, 1, none⟩ = some (.int .i64 y) ∧ w'.cell? ⟨w.heap.size, 2, none⟩ = some (.int .i64 z)) (go_keep) (fail)
    all_goals
      go_wp2_with fail
      refine bodyPost_ret (results_ctt rfl rfl (show Blk _ (w.heap.size + 1) 88 #[.int .i64 x, .int .i64 y] from (by (repeat (first | exact Blk.new _ _ _ | exact blk_new1 _ _ _ _ | exact blk_new2 _ _ _ _ _ | refine Blk.drew ?_ | refine Blk.alloc ?_ _)))) Tryz.underlying88 rfl (by kernel_rfl)) rfl ?_
      exact ⟨rfl, by (repeat (first | exact Below.refl _ _ | refine Below.drew ?_ | refine Below.alloc ?_ (by first | exact Nat.le_refl _ | (simp; done) | (simp; omega)) _ | refine Below.setCell ?_ (by first | exact Nat.le_refl _ | (simp; done) | (simp; omega)) _))⟩
  · go_enter Tryz.func98, Tryz.ntmps98
    go_wp2_with fail
    go_region_held3 (fun w' => w'.cell? ⟨w.heap.size, 0, none⟩ = some (.int .i64 x) ∧ w'.cell? ⟨w.heap.size, 1, none⟩ = some (.int .i64 y) ∧ w'.cell? ⟨w.heap.size, 2, none⟩ = some (.int .i64 z)) (go_keep) (fail)
    all_goals
      go_wp2_with fail
      refine bodyPost_ret (results_ctt rfl rfl (show Blk _ (w.heap.size + 1) 88 #[.int .i64 z, .int .i64 x] from (by (repeat (first | exact Blk.new _ _ _ | exact blk_new1 _ _ _ _ | exact blk_new2 _ _ _ _ _ | refine Blk.drew ?_ | refine Blk.alloc ?_ _)))) Tryz.underlying88 rfl (by kernel_rfl)) rfl ?_
      exact ⟨rfl, by (repeat (first | exact Below.refl _ _ | refine Below.drew ?_ | refine Below.alloc ?_ (by first | exact Nat.le_refl _ | (simp; done) | (simp; omega)) _ | refine Below.setCell ?_ (by first | exact Nat.le_refl _ | (simp; done) | (simp; omega)) _))⟩
  · go_enter Tryz.func98, Tryz.ntmps98
    go_wp2_with fail
    go_region_held3 (fun w' => w'.cell? ⟨w.heap.size, 0, none⟩ = some (.int .i64 x) ∧ w'.cell? ⟨w.heap.size, 1, none⟩ = some (.int .i64 y) ∧ w'.cell? ⟨w.heap.size, 2, none⟩ = some (.int .i64 z)) (go_keep) (fail)
    all_goals
      go_wp2_with fail
      refine bodyPost_ret (results_ctt rfl rfl (show Blk _ (w.heap.size + 1) 88 #[.int .i64 y, .int .i64 z] from (by (repeat (first | exact Blk.new _ _ _ | exact blk_new1 _ _ _ _ | exact blk_new2 _ _ _ _ _ | refine Blk.drew ?_ | refine Blk.alloc ?_ _)))) Tryz.underlying88 rfl (by kernel_rfl)) rfl ?_
      exact ⟨rfl, by (repeat (first | exact Below.refl _ _ | refine Below.drew ?_ | refine Below.alloc ?_ (by first | exact Nat.le_refl _ | (simp; done) | (simp; omega)) _ | refine Below.setCell ?_ (by first | exact Nat.le_refl _ | (simp; done) | (simp; omega)) _))⟩
  · have d1 : (p == 17) = false := by simpa using h1
    have d2 : (p == 18) = false := by simpa using h2
    have d3 : (p == 19) = false := by simpa using h3
    have e1 : flU p x y z = 0 := by unfold flU; rw [if_neg h1, if_neg h2, if_neg h3]
    have e2 : flW p x y z = 0 := by unfold flW; rw [if_neg h1, if_neg h2, if_neg h3]
    have e3 : flH p x y z = 0 := by unfold flH; rw [if_neg h1, if_neg h2, if_neg h3]
    have e4 : flOk p = false := decide_eq_false (by omega)
    rw [e1, e2, e3, e4]
    clear e1 e2 e3 e4
    go_enter Tryz.func98, Tryz.ntmps98
    go_wp2_with fail
    refine bodyPost_ret (results_ctt rfl rfl (show Blk _ (w.heap.size + 1) 88 #[.int .i64 0, .int .i64 0] from (by (repeat (first | exact Blk.new _ _ _ | exact blk_new1 _ _ _ _ | exact blk_new2 _ _ _ _ _ | refine Blk.drew ?_ | refine Blk.alloc ?_ _)))) Tryz.underlying88 rfl (by kernel_rfl)) rfl ?_
    exact ⟨rfl, by (repeat (first | exact Below.refl _ _ | refine Below.drew ?_ | refine Below.alloc ?_ (by first | exact Nat.le_refl _ | (simp; done) | (simp; omega)) _ | refine Below.setCell ?_ (by first | exact Nat.le_refl _ | (simp; done) | (simp; omega)) _))⟩

theorem rplane_any (p : Int) (w : World) : Calls Tryz.prog 52 #[.int .i64 p] w fun e w' => e = .returned (.bool (flOk p)) ∧ w = w' := by
  have hc : p = 17 ∨ p = 18 ∨ p = 19 ∨ (p ≠ 17 ∧ p ≠ 18 ∧ p ≠ 19) := by omega
  rcases hc with rfl | rfl | rfl | ⟨h1, h2, h3⟩
  iterate 3
    · go_enter Tryz.func52, Tryz.ntmps52
      go_wp2_with fail
      go_ret
      exact ⟨rfl, rfl⟩
  · have d1 : (p == 17) = false := by simpa using h1
    have d2 : (p == 18) = false := by simpa using h2
    have d3 : (p == 19) = false := by simpa using h3
    rw [show flOk p = false from decide_eq_false (by omega)]
    go_enter Tryz.func52, Tryz.ntmps52
    go_wp2_with fail
    go_ret
    exact ⟨rfl, rfl⟩
theorem rpt_any (p x y z : Int) (w : World) : Calls Tryz.prog 69 #[.int .i64 p, .agg #[.int .i64 x, .int .i64 y, .int .i64 z]] w fun e w' => e = .returned (.agg #[.int .i64 (flU p x y z), .int .i64 (flW p x y z)]) ∧ Below w.heap.size w w' := by
  have K := Lib.hid (fun W => rflat_any p x y z W)
  obtain ⟨u, hu⟩ : ∃ b, flU p x y z = b := ⟨_, rfl⟩
  obtain ⟨v, hv⟩ : ∃ b, flW p x y z = b := ⟨_, rfl⟩
  rw [hu, hv] at K ⊢
  clear hu hv
  go_enter Tryz.func69, Tryz.ntmps69
  go_wp2_with fail
  refine (K.out _).mono ?_
  rintro e w1 ⟨rfl, b1⟩
  have hc0 : w1.heap[w.heap.size + 1]? = some (.cells #[.int .i64 0, .int .i64 0] 88 (0, 0)) := (b1.block _ (by simp)).trans (blk_new1 w _ _ _)
  have sz := b1.size
  simp at sz
  have BEL1 := Lib.hid (show Below w.heap.size w w1 from (show Below w.heap.size w _ by (repeat (first | exact Below.refl _ _ | refine Below.drew ?_ | refine Below.alloc ?_ (by first | exact Nat.le_refl _ | (simp; done) | (simp; omega)) _ | refine Below.setCell ?_ (by first | exact Nat.le_refl _ | (simp; done) | (simp; omega)) _))).trans (b1.mono (by simp; omega)))
  have HB : Blk w1 (w.heap.size + 1) 88 #[.int .i64 0, .int .i64 0] := hc0
  have f0 := HB.frozen 0
  have f1 := HB.frozen 1
  have g0 := HB.cell 0
  have g1 := HB.cell 1
  have hlt : w.heap.size + 1 < w1.heap.size := by omega
  have HB := Lib.hid HB
  simp only [List.getElem?_toArray, List.getElem?_cons_zero, List.getElem?_cons_succ] at g0 g1
  clear b1 K hc0
  go_wp2_with fail
  refine bodyPost_ret (results_cell_row rfl _ _ (w.heap.size + 1) 88 #[.int .i64 u, .int .i64 v] (0, 0) _ rfl (show Blk _ _ _ _ from (((HB.out.put 0 _).put 1 _).alloc _)) Tryz.underlying88 rfl (by kernel_rfl)) rfl ?_
  exact ⟨rfl, ((BEL1.out.setCell (by simp) _).setCell (by simp) _).alloc (by simp; omega) _⟩
theorem rheight_any (p x y z : Int) (w : World) : Calls Tryz.prog 71 #[.int .i64 p, .agg #[.int .i64 x, .int .i64 y, .int .i64 z]] w fun e w' => e = .returned (.int .i64 (flH p x y z)) ∧ Below w.heap.size w w' := by
  have K := Lib.hid (fun W => rflat_any p x y z W)
  obtain ⟨u, hu⟩ : ∃ b, flH p x y z = b := ⟨_, rfl⟩
  rw [hu] at K ⊢
  clear hu
  go_enter Tryz.func71, Tryz.ntmps71
  go_wp2_with fail
  refine (K.out _).mono ?_
  rintro e w1 ⟨rfl, b1⟩
  have sz := b1.size
  simp at sz
  have BEL1 := Lib.hid (show Below w.heap.size w w1 from (show Below w.heap.size w _ by (repeat (first | exact Below.refl _ _ | refine Below.drew ?_ | refine Below.alloc ?_ (by first | exact Nat.le_refl _ | (simp; done) | (simp; omega)) _ | refine Below.setCell ?_ (by first | exact Nat.le_refl _ | (simp; done) | (simp; omega)) _))).trans (b1.mono (by simp)))
  clear b1 K
  go_wp2_with fail
  go_ret
  exact ⟨rfl, BEL1.out.alloc (by omega) _⟩
def soX (p u v h : Int) : Int := if p = 17 then u else if p = 18 then v else if p = 19 then h else 0
def soY (p u v h : Int) : Int := if p = 17 then v else if p = 18 then h else if p = 19 then u else 0
def soZ (p u v h : Int) : Int := if p = 17 then h else if p = 18 then u else if p = 19 then v else 0

theorem rsolid_any (p u v h : Int) (w : World) : Calls Tryz.prog 99 #[.int .i64 p, .agg #[.int .i64 u, .int .i64 v], .int .i64 h] w fun e w' => e = .returned (.tuple #[.agg #[.int .i64 (soX p u v h), .int .i64 (soY p u v h), .int .i64 (soZ p u v h)], .bool (flOk p)]) ∧ Below w.heap.size w w' := by
  have hc : p = 17 ∨ p = 18 ∨ p = 19 ∨ (p ≠ 17 ∧ p ≠ 18 ∧ p ≠ 19) := by omega
  rcases hc with rfl | rfl | rfl | ⟨h1, h2, h3⟩
  · go_enter Tryz.func99, Tryz.ntmps99
    go_wp2_with fail
    refine bodyPost_ret (results_ct rfl rfl (show Blk _ (w.heap.size + 1) 23 #[.int .i64 u, .int .i64 v, .int .i64 h] from (by (repeat (first | exact Blk.new _ _ _ | exact blk_new1 _ _ _ _ | exact blk_new2 _ _ _ _ _ | refine Blk.drew ?_ | refine Blk.alloc ?_ _)))) Tryz.underlying23 rfl (by kernel_rfl)) rfl ?_
    exact ⟨rfl, by (repeat (first | exact Below.refl _ _ | refine Below.drew ?_ | refine Below.alloc ?_ (by first | exact Nat.le_refl _ | (simp; done) | (simp; omega)) _ | refine Below.setCell ?_ (by first | exact Nat.le_refl _ | (simp; done) | (simp; omega)) _))⟩
  · go_enter Tryz.func99, Tryz.ntmps99
    go_wp2_with fail
    refine bodyPost_ret (results_ct rfl rfl (show Blk _ (w.heap.size + 1) 23 #[.int .i64 v, .int .i64 h, .int .i64 u] from (by (repeat (first | exact Blk.new _ _ _ | exact blk_new1 _ _ _ _ | exact blk_new2 _ _ _ _ _ | refine Blk.drew ?_ | refine Blk.alloc ?_ _)))) Tryz.underlying23 rfl (by kernel_rfl)) rfl ?_
    exact ⟨rfl, by (repeat (first | exact Below.refl _ _ | refine Below.drew ?_ | refine Below.alloc ?_ (by first | exact Nat.le_refl _ | (simp; done) | (simp; omega)) _ | refine Below.setCell ?_ (by first | exact Nat.le_refl _ | (simp; done) | (simp; omega)) _))⟩
  · go_enter Tryz.func99, Tryz.ntmps99
    go_wp2_with fail
    refine bodyPost_ret (results_ct rfl rfl (show Blk _ (w.heap.size + 1) 23 #[.int .i64 h, .int .i64 u, .int .i64 v] from (by (repeat (first | exact Blk.new _ _ _ | exact blk_new1 _ _ _ _ | exact blk_new2 _ _ _ _ _ | refine Blk.drew ?_ | refine Blk.alloc ?_ _)))) Tryz.underlying23 rfl (by kernel_rfl)) rfl ?_
    exact ⟨rfl, by (repeat (first | exact Below.refl _ _ | refine Below.drew ?_ | refine Below.alloc ?_ (by first | exact Nat.le_refl _ | (simp; done) | (simp; omega)) _ | refine Below.setCell ?_ (by first | exact Nat.le_refl _ | (simp; done) | (simp; omega)) _))⟩
  · have d1 : (p == 17) = false := by simpa using h1
    have d2 : (p == 18) = false := by simpa using h2
    have d3 : (p == 19) = false := by simpa using h3
    have e1 : soX p u v h = 0 := by unfold soX; rw [if_neg h1, if_neg h2, if_neg h3]
    have e2 : soY p u v h = 0 := by unfold soY; rw [if_neg h1, if_neg h2, if_neg h3]
    have e3 : soZ p u v h = 0 := by unfold soZ; rw [if_neg h1, if_neg h2, if_neg h3]
    have e4 : flOk p = false := decide_eq_false (by omega)
    rw [e1, e2, e3, e4]
    clear e1 e2 e3 e4
    go_enter Tryz.func99, Tryz.ntmps99
    go_wp2_with fail
    refine bodyPost_ret (results_ct rfl rfl (show Blk _ (w.heap.size + 1) 23 #[.int .i64 0, .int .i64 0, .int .i64 0] from (by (repeat (first | exact Blk.new _ _ _ | exact blk_new1 _ _ _ _ | exact blk_new2 _ _ _ _ _ | refine Blk.drew ?_ | refine Blk.alloc ?_ _)))) Tryz.underlying23 rfl (by kernel_rfl)) rfl ?_
    exact ⟨rfl, by (repeat (first | exact Below.refl _ _ | refine Below.drew ?_ | refine Below.alloc ?_ (by first | exact Nat.le_refl _ | (simp; done) | (simp; omega)) _ | refine Below.setCell ?_ (by first | exact Nat.le_refl _ | (simp; done) | (simp; omega)) _))⟩

theorem solid_any (p u v h : Int) (w : World) : Calls Tryz.prog 62 #[.int .i64 p, .agg #[.int .i64 u, .int .i64 v], .int .i64 h] w fun e w' => e = .returned (.tuple #[.agg #[.int .i64 (soX p u v h), .int .i64 (soY p u v h), .int .i64 (soZ p u v h)], .bool (flOk p)]) ∧ Below w.heap.size w w' := by
  have hc : p = 17 ∨ p = 18 ∨ p = 19 ∨ (p ≠ 17 ∧ p ≠ 18 ∧ p ≠ 19) := by omega
  rcases hc with rfl | rfl | rfl | ⟨h1, h2, h3⟩
  · go_enter Tryz.func62, Tryz.ntmps62
    go_wp2_with fail
    refine bodyPost_ret (results_ct rfl rfl (show Blk _ (w.heap.size + 1) 23 #[.int .i64 u, .int .i64 v, .int .i64 h] from (by (repeat (first | exact Blk.new _ _ _ | exact blk_new1 _ _ _ _ | exact blk_new2 _ _ _ _ _ | refine Blk.drew ?_ | refine Blk.alloc ?_ _)))) Tryz.underlying23 rfl (by kernel_rfl)) rfl ?_
    exact ⟨rfl, by (repeat (first | exact Below.refl _ _ | refine Below.drew ?_ | refine Below.alloc ?_ (by first | exact Nat.le_refl _ | (simp; done) | (simp; omega)) _ | refine Below.setCell ?_ (by first | exact Nat.le_refl _ | (simp; done) | (simp; omega)) _))⟩
  · go_enter Tryz.func62, Tryz.ntmps62
    go_wp2_with fail
    refine bodyPost_ret (results_ct rfl rfl (show Blk _ (w.heap.size + 1) 23 #[.int .i64 v, .int .i64 h, .int .i64 u] from (by (repeat (first | exact Blk.new _ _ _ | exact blk_new1 _ _ _ _ | exact blk_new2 _ _ _ _ _ | refine Blk.drew ?_ | refine Blk.alloc ?_ _)))) Tryz.underlying23 rfl (by kernel_rfl)) rfl ?_
    exact ⟨rfl, by (repeat (first | exact Below.refl _ _ | refine Below.drew ?_ | refine Below.alloc ?_ (by first | exact Nat.le_refl _ | (simp; done) | (simp; omega)) _ | refine Below.setCell ?_ (by first | exact Nat.le_refl _ | (simp; done) | (simp; omega)) _))⟩
  · go_enter Tryz.func62, Tryz.ntmps62
    go_wp2_with fail
    refine bodyPost_ret (results_ct rfl rfl (show Blk _ (w.heap.size + 1) 23 #[.int .i64 h, .int .i64 u, .int .i64 v] from (by (repeat (first | exact Blk.new _ _ _ | exact blk_new1 _ _ _ _ | exact blk_new2 _ _ _ _ _ | refine Blk.drew ?_ | refine Blk.alloc ?_ _)))) Tryz.underlying23 rfl (by kernel_rfl)) rfl ?_
    exact ⟨rfl, by (repeat (first | exact Below.refl _ _ | refine Below.drew ?_ | refine Below.alloc ?_ (by first | exact Nat.le_refl _ | (simp; done) | (simp; omega)) _ | refine Below.setCell ?_ (by first | exact Nat.le_refl _ | (simp; done) | (simp; omega)) _))⟩
  · have d1 : (p == 17) = false := by simpa using h1
    have d2 : (p == 18) = false := by simpa using h2
    have d3 : (p == 19) = false := by simpa using h3
    have e1 : soX p u v h = 0 := by unfold soX; rw [if_neg h1, if_neg h2, if_neg h3]
    have e2 : soY p u v h = 0 := by unfold soY; rw [if_neg h1, if_neg h2, if_neg h3]
    have e3 : soZ p u v h = 0 := by unfold soZ; rw [if_neg h1, if_neg h2, if_neg h3]
    have e4 : flOk p = false := decide_eq_false (by omega)
    rw [e1, e2, e3, e4]
    clear e1 e2 e3 e4
    go_enter Tryz.func62, Tryz.ntmps62
    go_wp2_with fail
    refine bodyPost_ret (results_ct rfl rfl (show Blk _ (w.heap.size + 1) 23 #[.int .i64 0, .int .i64 0, .int .i64 0] from (by (repeat (first | exact Blk.new _ _ _ | exact blk_new1 _ _ _ _ | exact blk_new2 _ _ _ _ _ | refine Blk.drew ?_ | refine Blk.alloc ?_ _)))) Tryz.underlying23 rfl (by kernel_rfl)) rfl ?_
    exact ⟨rfl, by (repeat (first | exact Below.refl _ _ | refine Below.drew ?_ | refine Below.alloc ?_ (by first | exact Nat.le_refl _ | (simp; done) | (simp; omega)) _ | refine Below.setCell ?_ (by first | exact Nat.le_refl _ | (simp; done) | (simp; omega)) _))⟩

theorem rat_any (p u v h : Int) (w : World) : Calls Tryz.prog 70 #[.int .i64 p, .agg #[.int .i64 u, .int .i64 v], .int .i64 h] w fun e w' => e = .returned (.agg #[.int .i64 (soX p u v h), .int .i64 (soY p u v h), .int .i64 (soZ p u v h)]) ∧ Below w.heap.size w w' := by
  have K := Lib.hid (fun W => rsolid_any p u v h W)
  obtain ⟨x, hx⟩ : ∃ b, soX p u v h = b := ⟨_, rfl⟩
  obtain ⟨y, hy⟩ : ∃ b, soY p u v h = b := ⟨_, rfl⟩
  obtain ⟨z, hz⟩ : ∃ b, soZ p u v h = b := ⟨_, rfl⟩
  rw [hx, hy, hz] at K ⊢
  clear hx hy hz
  go_enter Tryz.func70, Tryz.ntmps70
  go_wp2_with fail
  refine (K.out _).mono ?_
  rintro e w1 ⟨rfl, b1⟩
  have hc0 : w1.heap[w.heap.size + 1]? = some (.cells #[.int .i64 0, .int .i64 0, .int .i64 0] 23 (0, 0)) := (b1.block _ (by simp)).trans (blk_new1 w _ _ _)
  have sz := b1.size
  simp at sz
  have BEL1 := Lib.hid (show Below w.heap.size w w1 from (show Below w.heap.size w _ by (repeat (first | exact Below.refl _ _ | refine Below.drew ?_ | refine Below.alloc ?_ (by first | exact Nat.le_refl _ | (simp; done) | (simp; omega)) _ | refine Below.setCell ?_ (by first | exact Nat.le_refl _ | (simp; done) | (simp; omega)) _))).trans (b1.mono (by simp; omega)))
  have HB : Blk w1 (w.heap.size + 1) 23 #[.int .i64 0, .int .i64 0, .int .i64 0] := hc0
  have f0 := HB.frozen 0
  have f1 := HB.frozen 1
  have f2 := HB.frozen 2
  have g0 := HB.cell 0
  have g1 := HB.cell 1
  have g2 := HB.cell 2
  have hlt : w.heap.size + 1 < w1.heap.size := by omega
  have HB := Lib.hid HB
  simp only [List.getElem?_toArray, List.getElem?_cons_zero, List.getElem?_cons_succ] at g0 g1 g2
  clear b1 K hc0
  go_wp2_with fail
  refine bodyPost_ret (results_cell_row rfl _ _ (w.heap.size + 1) 23 #[.int .i64 x, .int .i64 y, .int .i64 z] (0, 0) _ rfl (show Blk _ _ _ _ from ((((HB.out.put 0 _).put 1 _).put 2 _).alloc _)) Tryz.underlying23 rfl (by kernel_rfl)) rfl ?_
  exact ⟨rfl, (((BEL1.out.setCell (by simp) _).setCell (by simp) _).setCell (by simp) _).alloc (by simp; omega) _⟩
def wA (a b : Int) : Int := IntKind.i64.wrap (a + b)
def wS (a b : Int) : Int := IntKind.i64.wrap (a - b)
theorem wA_eq {a b : Int} (h : -9223372036854775808 ≤ a + b ∧ a + b ≤ 9223372036854775807) : wA a b = a + b := by unfold wA; rw [IntKind.wrap_i64]; omega
theorem wS_eq {a b : Int} (h : -9223372036854775808 ≤ a - b ∧ a - b ≤ 9223372036854775807) : wS a b = a - b := by unfold wS; rw [IntKind.wrap_i64]; omega

theorem radd_any (x y z x2 y2 z2 : Int) (w : World) : Calls Tryz.prog 46 #[.agg #[.int .i64 x, .int .i64 y, .int .i64 z], .agg #[.int .i64 x2, .int .i64 y2, .int .i64 z2]] w fun e w' => e = .returned (.agg #[.int .i64 (wA x x2), .int .i64 (wA y y2), .int .i64 (wA z z2)]) ∧ Below w.heap.size w w' := by
  unfold wA
  obtain ⟨sx, hx⟩ : ∃ s, IntKind.i64.wrap (x + x2) = s := ⟨_, rfl⟩
  obtain ⟨sy, hy⟩ : ∃ s, IntKind.i64.wrap (y + y2) = s := ⟨_, rfl⟩
  obtain ⟨sz, hz⟩ : ∃ s, IntKind.i64.wrap (z + z2) = s := ⟨_, rfl⟩
  rw [hx, hy, hz]
  go_enter Tryz.func46, Tryz.ntmps46
  go_wp2_with fail
  refine bodyPost_ret (results_cell_row rfl _ _ (w.heap.size + 2) 23 #[.int .i64 sx, .int .i64 sy, .int .i64 sz] (0, 0) _ rfl (show Blk _ _ _ _ from by (repeat (first | exact Blk.new _ _ _ | exact blk_new1 _ _ _ _ | exact blk_new2 _ _ _ _ _ | refine Blk.drew ?_ | refine Blk.alloc ?_ _))) Tryz.underlying23 rfl (by kernel_rfl)) rfl ?_
  exact ⟨rfl, by (repeat (first | exact Below.refl _ _ | refine Below.drew ?_ | refine Below.alloc ?_ (by first | exact Nat.le_refl _ | (simp; done) | (simp; omega)) _ | refine Below.setCell ?_ (by first | exact Nat.le_refl _ | (simp; done) | (simp; omega)) _))⟩

theorem rsub_any (x y z x2 y2 z2 : Int) (w : World) : Calls Tryz.prog 48 #[.agg #[.int .i64 x, .int .i64 y, .int .i64 z], .agg #[.int .i64 x2, .int .i64 y2, .int .i64 z2]] w fun e w' => e = .returned (.agg #[.int .i64 (wS x x2), .int .i64 (wS y y2), .int .i64 (wS z z2)]) ∧ Below w.heap.size w w' := by
  unfold wS
  obtain ⟨sx, hx⟩ : ∃ s, IntKind.i64.wrap (x - x2) = s := ⟨_, rfl⟩
  obtain ⟨sy, hy⟩ : ∃ s, IntKind.i64.wrap (y - y2) = s := ⟨_, rfl⟩
  obtain ⟨sz, hz⟩ : ∃ s, IntKind.i64.wrap (z - z2) = s := ⟨_, rfl⟩
  rw [hx, hy, hz]
  go_enter Tryz.func48, Tryz.ntmps48
  go_wp2_with fail
  refine bodyPost_ret (results_cell_row rfl _ _ (w.heap.size + 2) 23 #[.int .i64 sx, .int .i64 sy, .int .i64 sz] (0, 0) _ rfl (show Blk _ _ _ _ from by (repeat (first | exact Blk.new _ _ _ | exact blk_new1 _ _ _ _ | exact blk_new2 _ _ _ _ _ | refine Blk.drew ?_ | refine Blk.alloc ?_ _))) Tryz.underlying23 rfl (by kernel_rfl)) rfl ?_
  exact ⟨rfl, by (repeat (first | exact Below.refl _ _ | refine Below.drew ?_ | refine Below.alloc ?_ (by first | exact Nat.le_refl _ | (simp; done) | (simp; omega)) _ | refine Below.setCell ?_ (by first | exact Nat.le_refl _ | (simp; done) | (simp; omega)) _))⟩

theorem raddpt_any (x y x2 y2 : Int) (w : World) : Calls Tryz.prog 86 #[.agg #[.int .i64 x, .int .i64 y], .agg #[.int .i64 x2, .int .i64 y2]] w fun e w' => e = .returned (.agg #[.int .i64 (wA x x2), .int .i64 (wA y y2)]) ∧ Below w.heap.size w w' := by
  unfold wA
  obtain ⟨sx, hx⟩ : ∃ s, IntKind.i64.wrap (x + x2) = s := ⟨_, rfl⟩
  obtain ⟨sy, hy⟩ : ∃ s, IntKind.i64.wrap (y + y2) = s := ⟨_, rfl⟩
  rw [hx, hy]
  go_enter Tryz.func86, Tryz.ntmps86
  go_wp2_with fail
  refine bodyPost_ret (results_cell_row rfl _ _ (w.heap.size + 2) 88 #[.int .i64 sx, .int .i64 sy] (0, 0) _ rfl (show Blk _ _ _ _ from by (repeat (first | exact Blk.new _ _ _ | exact blk_new1 _ _ _ _ | exact blk_new2 _ _ _ _ _ | refine Blk.drew ?_ | refine Blk.alloc ?_ _))) Tryz.underlying88 rfl (by kernel_rfl)) rfl ?_
  exact ⟨rfl, by (repeat (first | exact Below.refl _ _ | refine Below.drew ?_ | refine Below.alloc ?_ (by first | exact Nat.le_refl _ | (simp; done) | (simp; omega)) _ | refine Below.setCell ?_ (by first | exact Nat.le_refl _ | (simp; done) | (simp; omega)) _))⟩

theorem rsubpt_any (x y x2 y2 : Int) (w : World) : Calls Tryz.prog 95 #[.agg #[.int .i64 x, .int .i64 y], .agg #[.int .i64 x2, .int .i64 y2]] w fun e w' => e = .returned (.agg #[.int .i64 (wS x x2), .int .i64 (wS y y2)]) ∧ Below w.heap.size w w' := by
  unfold wS
  obtain ⟨sx, hx⟩ : ∃ s, IntKind.i64.wrap (x - x2) = s := ⟨_, rfl⟩
  obtain ⟨sy, hy⟩ : ∃ s, IntKind.i64.wrap (y - y2) = s := ⟨_, rfl⟩
  rw [hx, hy]
  go_enter Tryz.func95, Tryz.ntmps95
  go_wp2_with fail
  refine bodyPost_ret (results_cell_row rfl _ _ (w.heap.size + 2) 88 #[.int .i64 sx, .int .i64 sy] (0, 0) _ rfl (show Blk _ _ _ _ from by (repeat (first | exact Blk.new _ _ _ | exact blk_new1 _ _ _ _ | exact blk_new2 _ _ _ _ _ | refine Blk.drew ?_ | refine Blk.alloc ?_ _))) Tryz.underlying88 rfl (by kernel_rfl)) rfl ?_
  exact ⟨rfl, by (repeat (first | exact Below.refl _ _ | refine Below.drew ?_ | refine Below.alloc ?_ (by first | exact Nat.le_refl _ | (simp; done) | (simp; omega)) _ | refine Below.setCell ?_ (by first | exact Nat.le_refl _ | (simp; done) | (simp; omega)) _))⟩

def inn (x y x2 y2 : Int) : Int := x * x2 + y * y2
def crs (x y x2 y2 : Int) : Int := x * y2 - y * x2
theorem mul_bd {B x y : Int} (hB : 0 ≤ B) (hx : -B ≤ x ∧ x ≤ B) (hy : -B ≤ y ∧ y ≤ B) : -(B * B) ≤ x * y ∧ x * y ≤ B * B := by
  have h1 : 0 ≤ (B - x) * (B + y) := Int.mul_nonneg (by omega) (by omega)
  have h2 : 0 ≤ (B + x) * (B - y) := Int.mul_nonneg (by omega) (by omega)
  have h3 : 0 ≤ (B - x) * (B - y) := Int.mul_nonneg (by omega) (by omega)
  have h4 : 0 ≤ (B + x) * (B + y) := Int.mul_nonneg (by omega) (by omega)
  simp only [Int.sub_mul, Int.mul_sub, Int.add_mul, Int.mul_add, Int.mul_comm x B] at h1 h2 h3 h4
  omega

theorem rinner_any (x y x2 y2 : Int) (hx : -1000000000 ≤ x ∧ x ≤ 1000000000) (hy : -1000000000 ≤ y ∧ y ≤ 1000000000) (hx2 : -1000000000 ≤ x2 ∧ x2 ≤ 1000000000) (hy2 : -1000000000 ≤ y2 ∧ y2 ≤ 1000000000) (w : World) : Calls Tryz.prog 67 #[.agg #[.int .i64 x, .int .i64 y], .agg #[.int .i64 x2, .int .i64 y2]] w fun e w' => e = .returned (.int .i64 (inn x y x2 y2)) ∧ Below w.heap.size w w' := by
  have m1 := mul_bd (B := 1000000000) (by decide) hx hx2
  have m2 := mul_bd (B := 1000000000) (by decide) hy hy2
  have q1 : IntKind.i64.wrap (x * x2) = x * x2 := by rw [IntKind.wrap_i64]; omega
  have q2 : IntKind.i64.wrap (y * y2) = y * y2 := by rw [IntKind.wrap_i64]; omega
  have q3 : IntKind.i64.wrap (x * x2 + y * y2) = x * x2 + y * y2 := by rw [IntKind.wrap_i64]; omega
  clear hx hy hx2 hy2 m1 m2
  go_enter Tryz.func67, Tryz.ntmps67
  go_wp2_with fail
  go_ret
  exact ⟨rfl, by (repeat (first | exact Below.refl _ _ | refine Below.drew ?_ | refine Below.alloc ?_ (by first | exact Nat.le_refl _ | (simp; done) | (simp; omega)) _ | refine Below.setCell ?_ (by first | exact Nat.le_refl _ | (simp; done) | (simp; omega)) _))⟩

theorem inner_any (x y x2 y2 : Int) (hx : -1000000000 ≤ x ∧ x ≤ 1000000000) (hy : -1000000000 ≤ y ∧ y ≤ 1000000000) (hx2 : -1000000000 ≤ x2 ∧ x2 ≤ 1000000000) (hy2 : -1000000000 ≤ y2 ∧ y2 ≤ 1000000000) (w : World) : Calls Tryz.prog 59 #[.agg #[.int .i64 x, .int .i64 y], .agg #[.int .i64 x2, .int .i64 y2]] w fun e w' => e = .returned (.int .i64 (inn x y x2 y2)) ∧ Below w.heap.size w w' := by
  have m1 := mul_bd (B := 1000000000) (by decide) hx hx2
  have m2 := mul_bd (B := 1000000000) (by decide) hy hy2
  have q1 : IntKind.i64.wrap (x * x2) = x * x2 := by rw [IntKind.wrap_i64]; omega
  have q2 : IntKind.i64.wrap (y * y2) = y * y2 := by rw [IntKind.wrap_i64]; omega
  have q3 : IntKind.i64.wrap (x * x2 + y * y2) = x * x2 + y * y2 := by rw [IntKind.wrap_i64]; omega
  clear hx hy hx2 hy2 m1 m2
  go_enter Tryz.func59, Tryz.ntmps59
  go_wp2_with fail
  go_ret
  exact ⟨rfl, by (repeat (first | exact Below.refl _ _ | refine Below.drew ?_ | refine Below.alloc ?_ (by first | exact Nat.le_refl _ | (simp; done) | (simp; omega)) _ | refine Below.setCell ?_ (by first | exact Nat.le_refl _ | (simp; done) | (simp; omega)) _))⟩

theorem rcross_any (x y x2 y2 : Int) (hx : -1000000000 ≤ x ∧ x ≤ 1000000000) (hy : -1000000000 ≤ y ∧ y ≤ 1000000000) (hx2 : -1000000000 ≤ x2 ∧ x2 ≤ 1000000000) (hy2 : -1000000000 ≤ y2 ∧ y2 ≤ 1000000000) (w : World) : Calls Tryz.prog 107 #[.agg #[.int .i64 x, .int .i64 y], .agg #[.int .i64 x2, .int .i64 y2]] w fun e w' => e = .returned (.int .i64 (crs x y x2 y2)) ∧ Below w.heap.size w w' := by
  have m1 := mul_bd (B := 1000000000) (by decide) hx hy2
  have m2 := mul_bd (B := 1000000000) (by decide) hy hx2
  have q1 : IntKind.i64.wrap (x * y2) = x * y2 := by rw [IntKind.wrap_i64]; omega
  have q2 : IntKind.i64.wrap (y * x2) = y * x2 := by rw [IntKind.wrap_i64]; omega
  have q3 : IntKind.i64.wrap (x * y2 - y * x2) = x * y2 - y * x2 := by rw [IntKind.wrap_i64]; omega
  clear hx hy hx2 hy2 m1 m2
  go_enter Tryz.func107, Tryz.ntmps107
  go_wp2_with fail
  go_ret
  exact ⟨rfl, by (repeat (first | exact Below.refl _ _ | refine Below.drew ?_ | refine Below.alloc ?_ (by first | exact Nat.le_refl _ | (simp; done) | (simp; omega)) _ | refine Below.setCell ?_ (by first | exact Nat.le_refl _ | (simp; done) | (simp; omega)) _))⟩

theorem cross_any (x y x2 y2 : Int) (hx : -1000000000 ≤ x ∧ x ≤ 1000000000) (hy : -1000000000 ≤ y ∧ y ≤ 1000000000) (hx2 : -1000000000 ≤ x2 ∧ x2 ≤ 1000000000) (hy2 : -1000000000 ≤ y2 ∧ y2 ≤ 1000000000) (w : World) : Calls Tryz.prog 116 #[.agg #[.int .i64 x, .int .i64 y], .agg #[.int .i64 x2, .int .i64 y2]] w fun e w' => e = .returned (.int .i64 (crs x y x2 y2)) ∧ Below w.heap.size w w' := by
  have m1 := mul_bd (B := 1000000000) (by decide) hx hy2
  have m2 := mul_bd (B := 1000000000) (by decide) hy hx2
  have q1 : IntKind.i64.wrap (x * y2) = x * y2 := by rw [IntKind.wrap_i64]; omega
  have q2 : IntKind.i64.wrap (y * x2) = y * x2 := by rw [IntKind.wrap_i64]; omega
  have q3 : IntKind.i64.wrap (x * y2 - y * x2) = x * y2 - y * x2 := by rw [IntKind.wrap_i64]; omega
  clear hx hy hx2 hy2 m1 m2
  go_enter Tryz.func116, Tryz.ntmps116
  go_wp2_with fail
  go_ret
  exact ⟨rfl, by (repeat (first | exact Below.refl _ _ | refine Below.drew ?_ | refine Below.alloc ?_ (by first | exact Nat.le_refl _ | (simp; done) | (simp; omega)) _ | refine Below.setCell ?_ (by first | exact Nat.le_refl _ | (simp; done) | (simp; omega)) _))⟩

end Go.Proofs.YtefdjdipbnnoaaaGreatDoor

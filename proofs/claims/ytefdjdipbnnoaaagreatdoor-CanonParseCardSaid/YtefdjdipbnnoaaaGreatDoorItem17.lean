/-
  api.Item as a structure, its cells; arc.spokes.
-/
import Derived.Test.YtefdjdipbnnoaaaGreatDoorVec17
namespace Go.Proofs.YtefdjdipbnnoaaaGreatDoor
open Go Go.RowKit
set_option linter.unusedVariables false

structure It where
  kind : Int
  block : Int
  fx : Int
  fy : Int
  fz : Int
  tx : Int
  ty : Int
  tz : Int
  plane : Int
  cx : Int
  cy : Int
  cz : Int
  dir : Int
  full : Bool
  feed : Int
  perRev : Bool
  side : Int
  radius : Int
  blend : Int
  n : Int
  speed : Int
  on : Bool
deriving DecidableEq
/-- The cells of an item. -/
def itA (i : It) : Array Value := #[.int .i64 i.kind, .int .i64 i.block, .int .i64 i.fx, .int .i64 i.fy, .int .i64 i.fz, .int .i64 i.tx, .int .i64 i.ty, .int .i64 i.tz, .int .i64 i.plane, .int .i64 i.cx, .int .i64 i.cy, .int .i64 i.cz, .int .i64 i.dir, .bool i.full, .int .i64 i.feed, .bool i.perRev, .int .i64 i.side, .int .i64 i.radius, .int .i64 i.blend, .int .i64 i.n, .int .i64 i.speed, .bool i.on]
theorem itA_0 (i : It) : (itA i)[0]? = some (.int .i64 i.kind) := rfl
theorem itA_1 (i : It) : (itA i)[1]? = some (.int .i64 i.block) := rfl
theorem itA_2 (i : It) : (itA i)[2]? = some (.int .i64 i.fx) := rfl
theorem itA_3 (i : It) : (itA i)[3]? = some (.int .i64 i.fy) := rfl
theorem itA_4 (i : It) : (itA i)[4]? = some (.int .i64 i.fz) := rfl
theorem itA_5 (i : It) : (itA i)[5]? = some (.int .i64 i.tx) := rfl
theorem itA_6 (i : It) : (itA i)[6]? = some (.int .i64 i.ty) := rfl
theorem itA_7 (i : It) : (itA i)[7]? = some (.int .i64 i.tz) := rfl
theorem itA_8 (i : It) : (itA i)[8]? = some (.int .i64 i.plane) := rfl
theorem itA_9 (i : It) : (itA i)[9]? = some (.int .i64 i.cx) := rfl
theorem itA_10 (i : It) : (itA i)[10]? = some (.int .i64 i.cy) := rfl
theorem itA_11 (i : It) : (itA i)[11]? = some (.int .i64 i.cz) := rfl
theorem itA_12 (i : It) : (itA i)[12]? = some (.int .i64 i.dir) := rfl
theorem itA_13 (i : It) : (itA i)[13]? = some (.bool i.full) := rfl
theorem itA_14 (i : It) : (itA i)[14]? = some (.int .i64 i.feed) := rfl
theorem itA_15 (i : It) : (itA i)[15]? = some (.bool i.perRev) := rfl
theorem itA_16 (i : It) : (itA i)[16]? = some (.int .i64 i.side) := rfl
theorem itA_17 (i : It) : (itA i)[17]? = some (.int .i64 i.radius) := rfl
theorem itA_18 (i : It) : (itA i)[18]? = some (.int .i64 i.blend) := rfl
theorem itA_19 (i : It) : (itA i)[19]? = some (.int .i64 i.n) := rfl
theorem itA_20 (i : It) : (itA i)[20]? = some (.int .i64 i.speed) := rfl
theorem itA_21 (i : It) : (itA i)[21]? = some (.bool i.on) := rfl
theorem itA_size (i : It) : (itA i).size = 22 := rfl
theorem itA_one (i : It) : (itA i).all (·.oneCell') = true := by simp [itA, Value.oneCell']
/-- An item in memory. -/
def ItAt (W : World) (g : Nat) (i : It) : Prop := Blk W g 25 (itA i)
theorem ItAt.below {W W' : World} {g : Nat} {i : It} (h : ItAt W g i) (hb : Below W.heap.size W W') : ItAt W' g i := Blk.below h hb h.lt
theorem ItAt.c0 {W : World} {g : Nat} {i : It} (h : ItAt W g i) : W.cell? ⟨g, 0, none⟩ = some (.int .i64 i.kind) := Blk.cell' h 0 (itA_0 i)
theorem ItAt.c1 {W : World} {g : Nat} {i : It} (h : ItAt W g i) : W.cell? ⟨g, 1, none⟩ = some (.int .i64 i.block) := Blk.cell' h 1 (itA_1 i)
theorem ItAt.c2 {W : World} {g : Nat} {i : It} (h : ItAt W g i) : W.cell? ⟨g, 2, none⟩ = some (.int .i64 i.fx) := Blk.cell' h 2 (itA_2 i)
theorem ItAt.c3 {W : World} {g : Nat} {i : It} (h : ItAt W g i) : W.cell? ⟨g, 3, none⟩ = some (.int .i64 i.fy) := Blk.cell' h 3 (itA_3 i)
theorem ItAt.c4 {W : World} {g : Nat} {i : It} (h : ItAt W g i) : W.cell? ⟨g, 4, none⟩ = some (.int .i64 i.fz) := Blk.cell' h 4 (itA_4 i)
theorem ItAt.c5 {W : World} {g : Nat} {i : It} (h : ItAt W g i) : W.cell? ⟨g, 5, none⟩ = some (.int .i64 i.tx) := Blk.cell' h 5 (itA_5 i)
theorem ItAt.c6 {W : World} {g : Nat} {i : It} (h : ItAt W g i) : W.cell? ⟨g, 6, none⟩ = some (.int .i64 i.ty) := Blk.cell' h 6 (itA_6 i)
theorem ItAt.c7 {W : World} {g : Nat} {i : It} (h : ItAt W g i) : W.cell? ⟨g, 7, none⟩ = some (.int .i64 i.tz) := Blk.cell' h 7 (itA_7 i)
theorem ItAt.c8 {W : World} {g : Nat} {i : It} (h : ItAt W g i) : W.cell? ⟨g, 8, none⟩ = some (.int .i64 i.plane) := Blk.cell' h 8 (itA_8 i)
theorem ItAt.c9 {W : World} {g : Nat} {i : It} (h : ItAt W g i) : W.cell? ⟨g, 9, none⟩ = some (.int .i64 i.cx) := Blk.cell' h 9 (itA_9 i)
theorem ItAt.c10 {W : World} {g : Nat} {i : It} (h : ItAt W g i) : W.cell? ⟨g, 10, none⟩ = some (.int .i64 i.cy) := Blk.cell' h 10 (itA_10 i)
theorem ItAt.c11 {W : World} {g : Nat} {i : It} (h : ItAt W g i) : W.cell? ⟨g, 11, none⟩ = some (.int .i64 i.cz) := Blk.cell' h 11 (itA_11 i)
theorem ItAt.c12 {W : World} {g : Nat} {i : It} (h : ItAt W g i) : W.cell? ⟨g, 12, none⟩ = some (.int .i64 i.dir) := Blk.cell' h 12 (itA_12 i)
theorem ItAt.c13 {W : World} {g : Nat} {i : It} (h : ItAt W g i) : W.cell? ⟨g, 13, none⟩ = some (.bool i.full) := Blk.cell' h 13 (itA_13 i)
theorem ItAt.c14 {W : World} {g : Nat} {i : It} (h : ItAt W g i) : W.cell? ⟨g, 14, none⟩ = some (.int .i64 i.feed) := Blk.cell' h 14 (itA_14 i)
theorem ItAt.c15 {W : World} {g : Nat} {i : It} (h : ItAt W g i) : W.cell? ⟨g, 15, none⟩ = some (.bool i.perRev) := Blk.cell' h 15 (itA_15 i)
theorem ItAt.c16 {W : World} {g : Nat} {i : It} (h : ItAt W g i) : W.cell? ⟨g, 16, none⟩ = some (.int .i64 i.side) := Blk.cell' h 16 (itA_16 i)
theorem ItAt.c17 {W : World} {g : Nat} {i : It} (h : ItAt W g i) : W.cell? ⟨g, 17, none⟩ = some (.int .i64 i.radius) := Blk.cell' h 17 (itA_17 i)
theorem ItAt.c18 {W : World} {g : Nat} {i : It} (h : ItAt W g i) : W.cell? ⟨g, 18, none⟩ = some (.int .i64 i.blend) := Blk.cell' h 18 (itA_18 i)
theorem ItAt.c19 {W : World} {g : Nat} {i : It} (h : ItAt W g i) : W.cell? ⟨g, 19, none⟩ = some (.int .i64 i.n) := Blk.cell' h 19 (itA_19 i)
theorem ItAt.c20 {W : World} {g : Nat} {i : It} (h : ItAt W g i) : W.cell? ⟨g, 20, none⟩ = some (.int .i64 i.speed) := Blk.cell' h 20 (itA_20 i)
theorem ItAt.c21 {W : World} {g : Nat} {i : It} (h : ItAt W g i) : W.cell? ⟨g, 21, none⟩ = some (.bool i.on) := Blk.cell' h 21 (itA_21 i)
def It.fU (i : It) : Int := flU i.plane i.fx i.fy i.fz
def It.fW (i : It) : Int := flW i.plane i.fx i.fy i.fz
def It.fH (i : It) : Int := flH i.plane i.fx i.fy i.fz
def It.tU (i : It) : Int := flU i.plane i.tx i.ty i.tz
def It.tW (i : It) : Int := flW i.plane i.tx i.ty i.tz
def It.tH (i : It) : Int := flH i.plane i.tx i.ty i.tz
def It.cU (i : It) : Int := flU i.plane i.cx i.cy i.cz
def It.cW (i : It) : Int := flW i.plane i.cx i.cy i.cz
def It.cH (i : It) : Int := flH i.plane i.cx i.cy i.cz

theorem Blk.skip {w : World} {g : Nat} {t : TypeId} {cs : Array Value} (h : Blk w g t cs) {p : Addr} (hp : g ≠ p.block) (u : Value) : Blk (w.setCell p u) g t cs := (Below.heap_setCell w p u g hp).trans h
theorem wp_told {P : Program} {c : Code} {Q : Exit → Act → World → Prop} {a : Act} {w : World} (S : World → Prop) (h : S w) (k : ∀ W, S W → Code.wp P c Q a W) : Code.wp P c Q a w := k w h
attribute [local go_sem] itA_0 itA_1 itA_2 itA_3 itA_4 itA_5 itA_6 itA_7 itA_8 itA_9 itA_10 itA_11 itA_12 itA_13 itA_14 itA_15 itA_16 itA_17 itA_18 itA_19 itA_20 itA_21
set_option maxRecDepth 100000 in
set_option maxHeartbeats 1000000 in
theorem spokes_any (i : It) (w : World) : Calls Tryz.prog 57 #[.agg (itA i)] w fun e w' => e = .returned (.tuple #[.agg #[.int .i64 (wS i.fU i.cU), .int .i64 (wS i.fW i.cW)], .agg #[.int .i64 (wS i.tU i.cU), .int .i64 (wS i.tW i.cW)]]) ∧ Below w.heap.size w w' := by
  have KC := Lib.hid (fun W => flat_any i.plane i.cx i.cy i.cz W)
  have KF := Lib.hid (fun W => flat_any i.plane i.fx i.fy i.fz W)
  have KT := Lib.hid (fun W => flat_any i.plane i.tx i.ty i.tz W)
  unfold wS It.fU It.cU It.fW It.cW It.tU It.tW
  obtain ⟨cu, hcu⟩ : ∃ b, flU i.plane i.cx i.cy i.cz = b := ⟨_, rfl⟩
  obtain ⟨cw, hcw⟩ : ∃ b, flW i.plane i.cx i.cy i.cz = b := ⟨_, rfl⟩
  obtain ⟨fu, hfu⟩ : ∃ b, flU i.plane i.fx i.fy i.fz = b := ⟨_, rfl⟩
  obtain ⟨fw, hfw⟩ : ∃ b, flW i.plane i.fx i.fy i.fz = b := ⟨_, rfl⟩
  obtain ⟨tu, htu⟩ : ∃ b, flU i.plane i.tx i.ty i.tz = b := ⟨_, rfl⟩
  obtain ⟨tw, htw⟩ : ∃ b, flW i.plane i.tx i.ty i.tz = b := ⟨_, rfl⟩
  rw [hcu, hcw] at KC ⊢
  rw [hfu, hfw] at KF ⊢
  rw [htu, htw] at KT ⊢
  clear hcu hcw hfu hfw htu htw
  obtain ⟨s1, h1⟩ : ∃ s, IntKind.i64.wrap (fu - cu) = s := ⟨_, rfl⟩
  obtain ⟨s2, h2⟩ : ∃ s, IntKind.i64.wrap (fw - cw) = s := ⟨_, rfl⟩
  obtain ⟨s3, h3⟩ : ∃ s, IntKind.i64.wrap (tu - cu) = s := ⟨_, rfl⟩
  obtain ⟨s4, h4⟩ : ∃ s, IntKind.i64.wrap (tw - cw) = s := ⟨_, rfl⟩
  rw [h1, h2, h3, h4]
  have H1 := Lib.hid h1
  have H2 := Lib.hid h2
  have H3 := Lib.hid h3
  have H4 := Lib.hid h4
  clear h1 h2 h3 h4
  go_enter Tryz.func57, Tryz.ntmps57
  go_wp2_with fail
  refine (KC.out _).mono ?_
  rintro e w1 ⟨rfl, b1⟩
  have sz1 := b1.size
  simp at sz1
  have l1 : w.heap.size < w1.heap.size := by omega
  have m1 : w.heap.size + 1 < w1.heap.size := by omega
  have n1 : w.heap.size + 1 + 1 < w1.heap.size := by omega
  have I1 : ItAt w1 w.heap.size i := ItAt.below (show ItAt _ w.heap.size i from by unfold ItAt; (repeat (first | exact Blk.new _ _ _ | exact blk_new1 _ _ _ _ | exact blk_new2 _ _ _ _ _ | refine Blk.drew ?_ | refine Blk.alloc ?_ _))) b1
  have R1 : Blk w1 (w.heap.size + 1) 88 #[.int .i64 0, .int .i64 0] := Blk.below (by (repeat (first | exact Blk.new _ _ _ | exact blk_new1 _ _ _ _ | exact blk_new2 _ _ _ _ _ | refine Blk.drew ?_ | refine Blk.alloc ?_ _))) b1 (by simp)
  have R2 : Blk w1 (w.heap.size + 2) 88 #[.int .i64 0, .int .i64 0] := Blk.below (by (repeat (first | exact Blk.new _ _ _ | exact blk_new1 _ _ _ _ | exact blk_new2 _ _ _ _ _ | refine Blk.drew ?_ | refine Blk.alloc ?_ _))) b1 (by simp)
  have BEL1 : Below w.heap.size w w1 := (show Below w.heap.size w _ by (repeat (first | exact Below.refl _ _ | refine Below.drew ?_ | refine Below.alloc ?_ (by first | exact Nat.le_refl _ | (simp; done) | (simp; omega)) _ | refine Below.setCell ?_ (by first | exact Nat.le_refl _ | (simp; done) | (simp; omega)) _))).trans (b1.mono (by simp; omega))
  have c8 := I1.c8
  have c2 := I1.c2
  have c3 := I1.c3
  have c4 := I1.c4
  clear b1
  go_wp2_with fail
  refine (KF.out _).mono ?_
  rintro e w2 ⟨rfl, b2⟩
  have sz2 := b2.size
  simp at sz2
  have l2 : w.heap.size < w2.heap.size := by omega
  have m2 : w.heap.size + 1 < w2.heap.size := by omega
  have n2 : w.heap.size + 1 + 1 < w2.heap.size := by omega
  have o2 : w1.heap.size < w2.heap.size := by omega
  have I2 : ItAt w2 w.heap.size i := ItAt.below (show ItAt _ w.heap.size i from (Blk.alloc I1 _)) b2
  have P2 : Blk w2 w1.heap.size 88 #[.int .i64 cu, .int .i64 cw] := Blk.below (Blk.new w1 _ _) b2 (by simp)
  have R1 := Blk.below (R1.alloc _) b2 (by simp; omega)
  have R2 := Blk.below (R2.alloc _) b2 (by simp; omega)
  have BEL2 : Below w.heap.size w w2 := (BEL1.alloc (by omega) _).trans (b2.mono (by simp; omega))
  clear b2 c8 c2 c3 c4 I1 BEL1
  have c8 := I2.c8
  have c5 := I2.c5
  have c6 := I2.c6
  have c7 := I2.c7
  go_wp2_with fail
  refine (KT.out _).mono ?_
  rintro e w3 ⟨rfl, b3⟩
  have sz3 := b3.size
  simp at sz3
  have l3 : w.heap.size < w3.heap.size := by omega
  have m3 : w.heap.size + 1 < w3.heap.size := by omega
  have n3 : w.heap.size + 1 + 1 < w3.heap.size := by omega
  have o3 : w1.heap.size < w3.heap.size := by omega
  have p3 : w2.heap.size < w3.heap.size := by omega
  have P3 : Blk w3 w1.heap.size 88 #[.int .i64 cu, .int .i64 cw] := Blk.below (P2.alloc _) b3 (by simp; omega)
  have Q3 : Blk w3 w2.heap.size 88 #[.int .i64 fu, .int .i64 fw] := Blk.below (Blk.new w2 _ _) b3 (by simp)
  have R1 := Blk.below (R1.alloc _) b3 (by simp; omega)
  have R2 := Blk.below (R2.alloc _) b3 (by simp; omega)
  have BEL3 : Below w.heap.size w w3 := (BEL2.alloc (by omega) _).trans (b3.mono (by simp; omega))
  clear b3 c8 c5 c6 c7 I2 P2 BEL2
  have H1 := H1.out
  have H2 := H2.out
  have H3 := H3.out
  have H4 := H4.out
  go_wp2_with fail
  refine wp_told (fun W => Blk W w1.heap.size 88 #[.int .i64 cu, .int .i64 cw] ∧ Blk W w2.heap.size 88 #[.int .i64 fu, .int .i64 fw] ∧ Blk W w3.heap.size 88 #[.int .i64 tu, .int .i64 tw] ∧ Blk W (w.heap.size + 1) 88 #[.int .i64 0, .int .i64 0] ∧ Blk W (w.heap.size + 2) 88 #[.int .i64 0, .int .i64 0] ∧ Below w.heap.size w W) ⟨P3.alloc _, Q3.alloc _, Blk.new _ _ _, R1.alloc _, R2.alloc _, BEL3.alloc (by omega) _⟩ ?_
  clear P3 Q3 R1 R2 BEL3
  rintro W ⟨P, Q, T, R1, R2, BEL⟩
  have e1 : ∀ u v u2 v2, Blk ((((W.drew.setCell ⟨w.heap.size + 1, 0, none⟩ u).setCell ⟨w.heap.size + 1, 1, none⟩ v).setCell ⟨w.heap.size + 1 + 1, 0, none⟩ u2).setCell ⟨w.heap.size + 1 + 1, 1, none⟩ v2) (w.heap.size + 1) 88 #[u, v] := fun u v u2 v2 => Blk.skip (Blk.skip (Blk.put (Blk.put R1.drew 0 u) 1 v) (by simp) _) (by simp) _
  have e2 : ∀ u v u2 v2, Blk ((((W.drew.setCell ⟨w.heap.size + 1, 0, none⟩ u).setCell ⟨w.heap.size + 1, 1, none⟩ v).setCell ⟨w.heap.size + 1 + 1, 0, none⟩ u2).setCell ⟨w.heap.size + 1 + 1, 1, none⟩ v2) (w.heap.size + 1 + 1) 88 #[u2, v2] := fun u v u2 v2 => Blk.put (Blk.put (Blk.skip (Blk.skip R2.drew (by simp) _) (by simp) _) 0 u2) 1 v2
  have p0 := P.cell' 0 rfl
  have p1 := P.cell' 1 rfl
  have q0 := Q.cell' 0 rfl
  have q1 := Q.cell' 1 rfl
  have t0 := T.cell' 0 rfl
  have t1 := T.cell' 1 rfl
  have f10 := R1.frozen 0
  have f11 := R1.frozen 1
  have f20 := R2.frozen 0
  have f21 := R2.frozen 1
  have r10 := R1.cell' 0 rfl
  have r11 := R1.cell' 1 rfl
  have r20 := R2.cell' 0 rfl
  have r21 := R2.cell' 1 rfl
  have ne11 : ¬ w1.heap.size = w.heap.size + 1 := by omega
  have nf11 : ¬ w.heap.size + 1 = w1.heap.size := by omega
  have ne12 : ¬ w1.heap.size = w.heap.size + 1 + 1 := by omega
  have nf12 : ¬ w.heap.size + 1 + 1 = w1.heap.size := by omega
  have ne21 : ¬ w2.heap.size = w.heap.size + 1 := by omega
  have nf21 : ¬ w.heap.size + 1 = w2.heap.size := by omega
  have ne22 : ¬ w2.heap.size = w.heap.size + 1 + 1 := by omega
  have nf22 : ¬ w.heap.size + 1 + 1 = w2.heap.size := by omega
  have ne31 : ¬ w3.heap.size = w.heap.size + 1 := by omega
  have nf31 : ¬ w.heap.size + 1 = w3.heap.size := by omega
  have ne32 : ¬ w3.heap.size = w.heap.size + 1 + 1 := by omega
  have nf32 : ¬ w.heap.size + 1 + 1 = w3.heap.size := by omega
  go_region_held3 (fun w' => w'.cell? ⟨w1.heap.size, 0, none⟩ = some (.int .i64 cu) ∧ w'.cell? ⟨w1.heap.size, 1, none⟩ = some (.int .i64 cw) ∧ w'.cell? ⟨w2.heap.size, 0, none⟩ = some (.int .i64 fu) ∧ w'.cell? ⟨w2.heap.size, 1, none⟩ = some (.int .i64 fw) ∧ w'.cell? ⟨w3.heap.size, 0, none⟩ = some (.int .i64 tu) ∧ w'.cell? ⟨w3.heap.size, 1, none⟩ = some (.int .i64 tw)) (go_keep) (fail)
  all_goals
    go_wp2_with fail
    refine bodyPost_ret (results_cc rfl rfl (show Blk _ (w.heap.size + 1) 88 #[.int .i64 s1, .int .i64 s2] from e1 _ _ _ _) Tryz.underlying88 rfl (by kernel_rfl) rfl (show Blk _ (w.heap.size + 1 + 1) 88 #[.int .i64 s3, .int .i64 s4] from e2 _ _ _ _) Tryz.underlying88 rfl (by kernel_rfl)) rfl ?_
    exact ⟨rfl, ((((BEL.drew.setCell (by simp) _).setCell (by simp) _).setCell (by simp; omega) _).setCell (by simp; omega) _)⟩
end Go.Proofs.YtefdjdipbnnoaaaGreatDoor

/-
  cncref13.Extent.
-/
import Derived.Test.YtefdjdipbnnoaaaGreatDoorPlanX17
import Derived.Test.YtefdjdipbnnoaaaGreatDoorSqrt17
import Derived.Test.YtefdjdipbnnoaaaGreatDoorTab2
namespace Go.Proofs.YtefdjdipbnnoaaaGreatDoor
open Go Go.RowKit
set_option linter.unusedVariables false
set_option linter.unusedSimpArgs false

def ptrB (b o : Nat) : Value := .pointer (some ⟨b, o, none⟩)
/-- What stands before the two blocks are made. -/
structure XZ (w : World) (i : It) (W : World) : Prop where
  i : ItAt W w.heap.size i
  z1 : Blk W (w.heap.size + 1) 23 #[.int .i64 0, .int .i64 0, .int .i64 0]
  z2 : Blk W (w.heap.size + 1 + 1) 23 #[.int .i64 0, .int .i64 0, .int .i64 0]
  bel : Below w.heap.size w W
theorem XZ.below {w W W' : World} {i : It} (h : XZ w i W) (b : Below W.heap.size W W') : XZ w i W' :=
  ⟨h.i.below b, h.z1.below b h.z1.lt, h.z2.below b h.z2.lt, h.bel.trans (b.mono h.bel.size)⟩
/-- While the two blocks are made. -/
structure JX (w : World) (i : It) (N : Nat) (a : Act) (W : World) : Prop where
  z : XZ w i W
  sz : N ≤ W.heap.size
  s4 : ∀ b, a.tmps[4]? = some (ptrB b 0) → N ≤ b ∧ b < W.heap.size
  s5 : ∀ b, a.tmps[5]? = some (ptrB b 0) → N ≤ b ∧ b < W.heap.size
  ne : ∀ b b', a.tmps[4]? = some (ptrB b 0) → a.tmps[5]? = some (ptrB b' 0) → b ≠ b'
theorem ptrB_inj {b b' : Nat} (h : some (ptrB b 0) = some (ptrB b' 0)) : b = b' := by
  unfold ptrB at h
  injection h with h
  injection h with h
  injection h with h
  injection h
theorem JX.other {w W W' : World} {i : It} {N : Nat} {a : Act} (h : JX w i N a W) (b : Below W.heap.size W W') {d : Nat} (h4 : d ≠ 4) (h5 : d ≠ 5) (v : Value) : JX w i N (a.put (some d) v) W' := by
  have e4 : (a.put (some d) v).tmps[4]? = a.tmps[4]? := by rw [put_slot, if_neg h4]
  have e5 : (a.put (some d) v).tmps[5]? = a.tmps[5]? := by rw [put_slot, if_neg h5]
  exact ⟨h.z.below b, Nat.le_trans h.sz b.size, fun x hx => ⟨(h.s4 x (by rw [← e4]; exact hx)).1, Nat.lt_of_lt_of_le (h.s4 x (by rw [← e4]; exact hx)).2 b.size⟩,
    fun x hx => ⟨(h.s5 x (by rw [← e5]; exact hx)).1, Nat.lt_of_lt_of_le (h.s5 x (by rw [← e5]; exact hx)).2 b.size⟩, fun x y hx hy => h.ne x y (by rw [← e4]; exact hx) (by rw [← e5]; exact hy)⟩
theorem JX.a4 {w W : World} {i : It} {N : Nat} {a : Act} (h : JX w i N a W) (o : Obj) : JX w i N (a.put (some 4) (ptrB W.heap.size 0)) (W.alloc o) := by
  have b : Below W.heap.size W (W.alloc o) := (Below.refl _ _).alloc (Nat.le_refl _) _
  have e4 : ∀ x, (a.put (some 4) (ptrB W.heap.size 0)).tmps[4]? = some (ptrB x 0) → W.heap.size = x := by
    intro x hx
    rw [put_slot, if_pos rfl] at hx
    split at hx
    · exact ptrB_inj hx
    · cases hx
  have e5 : (a.put (some 4) (ptrB W.heap.size 0)).tmps[5]? = a.tmps[5]? := by rw [put_slot, if_neg (by decide)]
  have hs : (W.alloc o).heap.size = W.heap.size + 1 := by simp
  refine ⟨h.z.below b, by have := h.sz; omega, fun x hx => ?_, fun x hx => ?_, fun x y hx hy => ?_⟩
  · have := e4 x hx; have := h.sz; omega
  · rw [e5] at hx; have := h.s5 x hx; omega
  · have := e4 x hx; rw [e5] at hy; have := h.s5 y hy; omega
theorem JX.a5 {w W : World} {i : It} {N : Nat} {a : Act} (h : JX w i N a W) (o : Obj) : JX w i N (a.put (some 5) (ptrB W.heap.size 0)) (W.alloc o) := by
  have b : Below W.heap.size W (W.alloc o) := (Below.refl _ _).alloc (Nat.le_refl _) _
  have e5 : ∀ x, (a.put (some 5) (ptrB W.heap.size 0)).tmps[5]? = some (ptrB x 0) → W.heap.size = x := by
    intro x hx
    rw [put_slot, if_pos rfl] at hx
    split at hx
    · exact ptrB_inj hx
    · cases hx
  have e4 : (a.put (some 5) (ptrB W.heap.size 0)).tmps[4]? = a.tmps[4]? := by rw [put_slot, if_neg (by decide)]
  have hs : (W.alloc o).heap.size = W.heap.size + 1 := by simp
  refine ⟨h.z.below b, by have := h.sz; omega, fun x hx => ?_, fun x hx => ?_, fun x y hx hy => ?_⟩
  · rw [e4] at hx; have := h.s4 x hx; omega
  · have := e5 x hx; have := h.sz; omega
  · have := e5 y hy; rw [e4] at hx; have := h.s4 x hx; omega
def gX (i : It) (H : Nat) : Nat → Value → World → Prop
  | 0, v, _ => v = ptrB H 2
  | 1, v, _ => v = .agg #[.int .i64 i.fx, .int .i64 i.fy, .int .i64 i.fz]
  | 2, v, _ => v = ptrB H 5
  | 3, v, _ => v = .agg #[.int .i64 i.tx, .int .i64 i.ty, .int .i64 i.tz]
  | 4, v, _ => v = .agg (v3A (boxLo i.from3 i.to3))
  | 5, v, _ => v = ptrB H 2
  | 6, v, _ => v = .agg #[.int .i64 i.fx, .int .i64 i.fy, .int .i64 i.fz]
  | 7, v, _ => v = ptrB H 5
  | 8, v, _ => v = .agg #[.int .i64 i.tx, .int .i64 i.ty, .int .i64 i.tz]
  | 9, v, _ => v = .agg (v3A (boxHi i.from3 i.to3))
  | _, v, W => ∃ b, v = ptrB b 0 ∧ Blk W b 23 #[.int .i64 0, .int .i64 0, .int .i64 0]
theorem gX_below {i : It} {H k : Nat} {v : Value} {W W' : World} (b : Below W.heap.size W W') (h : gX i H k v W) : gX i H k v W' := by
  unfold gX at h ⊢
  split at h
  all_goals first
    | exact h
    | (obtain ⟨x, h1, h2⟩ := h; exact ⟨x, h1, h2.below b h2.lt⟩)
/-- What stands in the world while the reference's extent is made. -/
structure XR (w : World) (i : It) (A B : Nat) (lo hi : V3) (W : World) : Prop where
  i : ItAt W w.heap.size i
  z1 : Blk W (w.heap.size + 1) 23 #[.int .i64 0, .int .i64 0, .int .i64 0]
  z2 : Blk W (w.heap.size + 1 + 1) 23 #[.int .i64 0, .int .i64 0, .int .i64 0]
  lo : Blk W A 23 (v3A lo)
  hi : Blk W B 23 (v3A hi)
  bel : Below w.heap.size w W
theorem XR.below {w W W' : World} {i : It} {A B : Nat} {lo hi : V3} (h : XR w i A B lo hi W) (b : Below W.heap.size W W') : XR w i A B lo hi W' :=
  ⟨h.i.below b, h.z1.below b h.z1.lt, h.z2.below b h.z2.lt, h.lo.below b h.lo.lt, h.hi.below b h.hi.lt, h.bel.trans (b.mono h.bel.size)⟩
theorem XR.drew {w W : World} {i : It} {A B : Nat} {lo hi : V3} (h : XR w i A B lo hi W) : XR w i A B lo hi W.drew := ⟨h.i.drew, h.z1.drew, h.z2.drew, h.lo.drew, h.hi.drew, h.bel.drew⟩
theorem XR.alloc {w W : World} {i : It} {A B : Nat} {lo hi : V3} (h : XR w i A B lo hi W) (o : Obj) : XR w i A B lo hi (W.alloc o) := ⟨h.i.alloc _, h.z1.alloc _, h.z2.alloc _, h.lo.alloc _, h.hi.alloc _, h.bel.alloc h.bel.size _⟩
/-- Three cells of a block. -/
abbrev stV3 (W : World) (b : Nat) (q : V3) : World := ((W.setCell ⟨b, 0, none⟩ (.int .i64 q.1)).setCell ⟨b, 1, none⟩ (.int .i64 q.2.1)).setCell ⟨b, 2, none⟩ (.int .i64 q.2.2)
theorem Blk.set3 {W : World} {b : Nat} {p : V3} (h : Blk W b 23 (v3A p)) (q : V3) : Blk (stV3 W b q) b 23 (v3A q) := ((h.put 0 _).put 1 _).put 2 _
theorem Blk.skip3 {W : World} {b g : Nat} {t : TypeId} {cs : Array Value} (h : Blk W g t cs) (hne : g ≠ b) (q : V3) : Blk (stV3 W b q) g t cs :=
  Blk.skip (Blk.skip (Blk.skip h (by show g ≠ b; exact hne) _) (by show g ≠ b; exact hne) _) (by show g ≠ b; exact hne) _
theorem below_set3 {w W : World} {n b : Nat} (h : Below n w W) (hb : n ≤ b) (q : V3) : Below n w (stV3 W b q) := ((h.setCell (by show n ≤ b; exact hb) _).setCell (by show n ≤ b; exact hb) _).setCell (by show n ≤ b; exact hb) _
theorem ItAt.set3 {W : World} {b g : Nat} {i : It} (h : ItAt W g i) (hne : g ≠ b) (q : V3) : ItAt (stV3 W b q) g i := ((h.far (by show g ≠ b; exact hne) _).far (by show g ≠ b; exact hne) _).far (by show g ≠ b; exact hne) _
theorem XR.setlo {w W : World} {i : It} {A B : Nat} {lo hi : V3} (h : XR w i A B lo hi W) (hA : w.heap.size + 1 + 1 < A) (hne : A ≠ B) (q : V3) : XR w i A B q hi (stV3 W A q) :=
  ⟨h.i.set3 (by omega) q, h.z1.skip3 (by omega) q, h.z2.skip3 (by omega) q, h.lo.set3 q, h.hi.skip3 (Ne.symm hne) q, below_set3 h.bel (by omega) q⟩
theorem XR.sethi {w W : World} {i : It} {A B : Nat} {lo hi : V3} (h : XR w i A B lo hi W) (hB : w.heap.size + 1 + 1 < B) (hne : A ≠ B) (q : V3) : XR w i A B lo q (stV3 W B q) :=
  ⟨h.i.set3 (by omega) q, h.z1.skip3 (by omega) q, h.z2.skip3 (by omega) q, h.lo.skip3 hne q, h.hi.set3 q, below_set3 h.bel (by omega) q⟩
theorem infoPt : (Tryz.prog.info? 88).map (fun i => (i.zero, i.size, i.bytes)) = some (some (.agg #[.int .i64 0, .int .i64 0]), 2, 16) := by kernel_rfl
def dirC : Array Value := #[.int .i64 1, .int .i64 0, .int .i64 0, .int .i64 1, .int .i64 (-1), .int .i64 0, .int .i64 0, .int .i64 (-1)]
def gY (i : It) (r : Int) (H D C k N : Nat) (d1 d2 : Int) : Nat → Value → World → Prop
  | 0, v, _ => v = .pointer (some ⟨H, 8, none⟩)
  | 1, v, _ => v = .int .i64 i.plane
  | 2, v, _ => v = .pointer (some ⟨C, 0, none⟩)
  | 3, v, _ => v = .int .i64 i.cU
  | 4, v, _ => v = .int .i64 r
  | 5, v, _ => v = .slice (some ⟨D, 0, none⟩) 4 4
  | 6, v, _ => v = .int .i64 ((k : Nat))
  | 7, v, _ => v = .pointer (some ⟨D, k * 2, none⟩)
  | 8, v, _ => v = .pointer (some ⟨D, k * 2, none⟩)
  | 9, v, _ => v = .int .i64 d1
  | 10, v, _ => v = .int .i64 (r * d1)
  | 11, v, _ => v = .int .i64 (i.cU + r * d1)
  | 12, v, _ => v = .pointer (some ⟨C, 1, none⟩)
  | 13, v, _ => v = .int .i64 i.cW
  | 14, v, _ => v = .int .i64 r
  | 15, v, _ => v = .slice (some ⟨D, 0, none⟩) 4 4
  | 16, v, _ => v = .int .i64 ((k : Nat))
  | 17, v, _ => v = .pointer (some ⟨D, k * 2, none⟩)
  | 18, v, _ => v = .pointer (some ⟨D, k * 2 + 1, none⟩)
  | 19, v, _ => v = .int .i64 d2
  | 20, v, _ => v = .int .i64 (r * d2)
  | 21, v, _ => v = .int .i64 (i.cW + r * d2)
  | 22, v, _ => v = .agg #[.int .i64 (i.cU + r * d1), .int .i64 (i.cW + r * d2)]
  | 23, v, _ => v = .pointer (some ⟨H, 8, none⟩)
  | 24, v, _ => v = .int .i64 i.plane
  | 25, v, _ => v = .pointer (some ⟨H, 2, none⟩)
  | 26, v, _ => v = .agg #[.int .i64 i.fx, .int .i64 i.fy, .int .i64 i.fz]
  | 27, v, _ => v = .int .i64 i.fH
  | 28, v, _ => v = .agg (v3A (rextP i r (d1, d2)))
  | _, v, W => ∃ b, v = ptrB b 0 ∧ N ≤ b ∧ Blk W b 23 #[.int .i64 0, .int .i64 0, .int .i64 0]
theorem gY_below {i : It} {r : Int} {H D C n N : Nat} {d1 d2 : Int} {k : Nat} {v : Value} {W W' : World} (b : Below W.heap.size W W') (h : gY i r H D C n N d1 d2 k v W) : gY i r H D C n N d1 d2 k v W' := by
  unfold gY at h ⊢
  split at h
  all_goals first
    | exact h
    | (obtain ⟨x, h1, h2, h3⟩ := h; exact ⟨x, h1, h2, h3.below b h3.lt⟩)
def gZ (lo hi q : V3) : Nat → Value → World → Prop
  | 0, v, _ => v = .agg (v3A lo)
  | 1, v, _ => v = .agg (v3A q)
  | 2, v, _ => v = .agg (v3A (boxLo lo q))
  | 3, v, _ => v = .agg (v3A hi)
  | 4, v, _ => v = .agg (v3A q)
  | _, v, _ => v = .agg (v3A (boxHi hi q))
theorem gZ_below {lo hi q : V3} {k : Nat} {v : Value} {W W' : World} (h : gZ lo hi q k v W) : gZ lo hi q k v W' := by
  unfold gZ at h ⊢
  split at h <;> exact h

theorem dir_get {k : Nat} (h : k < 4) : ∃ d1 d2 : Int, dirL[k]? = some (d1, d2) ∧ (-1 ≤ d1 ∧ d1 ≤ 1) ∧ (-1 ≤ d2 ∧ d2 ≤ 1) ∧ dirC[k * 2]? = some (.int .i64 d1) ∧ dirC[k * 2 + 1]? = some (.int .i64 d2) := by
  match k, h with
  | 0, _ => exact ⟨1, 0, rfl, by decide, by decide, rfl, rfl⟩
  | 1, _ => exact ⟨0, 1, rfl, by decide, by decide, rfl, rfl⟩
  | 2, _ => exact ⟨-1, 0, rfl, by decide, by decide, rfl, rfl⟩
  | 3, _ => exact ⟨0, -1, rfl, by decide, by decide, rfl, rfl⟩
theorem XR.far {w W : World} {i : It} {A B : Nat} {lo hi : V3} (h : XR w i A B lo hi W) {E : Nat} (h0 : w.heap.size + 1 + 1 < E) (hA : A ≠ E) (hB : B ≠ E) (q : V3) : XR w i A B lo hi (stV3 W E q) :=
  ⟨h.i.set3 (by omega) q, h.z1.skip3 (by omega) q, h.z2.skip3 (by omega) q, h.lo.skip3 hA q, h.hi.skip3 hB q, below_set3 h.bel (by omega) q⟩
/-- What the last region keeps. -/
structure XE2 (A B : Nat) (lo hi : V3) (W : World) : Prop where
  lo : Blk W A 23 (v3A lo)
  hi : Blk W B 23 (v3A hi)
theorem wo_storeV {a : Act} {w : World} {K : Act → World → Prop} {Q : Exit → Act → World → Prop} {ty0 : TypeId} {pos : String} {after : Array Edge} {gd : Option (Nat × Bool)} (x y : Operand) (b : Nat) (p q : V3)
    (hx : a.eval x = .pointer (some ⟨b, 0, none⟩)) (hy : a.eval y = .agg (v3A q)) (hB : Blk w b 23 (v3A p)) (h : K a (stV3 w b q)) : Oper.wp Tryz.prog ⟨none, .store 23 x y, ty0, pos, after, gd⟩ a w K Q := by
  have f0 := hB.frozen 0
  have f1 := hB.frozen 1
  have f2 := hB.frozen 2
  have a0 : w.cell? ⟨b, 0, none⟩ = some (.int .i64 p.1) := hB.cell' 0 rfl
  have a1 : w.cell? ⟨b, 1, none⟩ = some (.int .i64 p.2.1) := hB.cell' 1 rfl
  have a2 : w.cell? ⟨b, 2, none⟩ = some (.int .i64 p.2.2) := hB.cell' 2 rfl
  unfold v3A at hy
  unfold Oper.wp execOp
  simp only [hx, hy]
  go_simp
  exact h
def eX : List (Nat × Tmp) := [(0, 14), (1, 15), (2, 16), (3, 17), (4, 18), (5, 19), (6, 20), (7, 21), (8, 22), (9, 23), (10, 4), (11, 5)]
theorem put_size (a : Act) (d : Tmp) (v : Value) : (a.put (some d) v).tmps.size = a.tmps.size := by simp [Act.put]
theorem fold_4 (a0 : Act) (vs : Nat → Value) (h : Nat.ble 24 a0.tmps.size = true) : (eX.foldl (fun a p => a.put (some p.2) (vs p.1)) a0).tmps[4]? = some (vs 10) := by
  have h := Nat.le_of_ble_eq_true h
  simp only [eX, List.foldl_cons, List.foldl_nil]
  rw [put_slot, if_neg (by decide), put_slot, if_pos rfl, if_pos (by simp only [put_size]; omega)]
theorem fold_5 (a0 : Act) (vs : Nat → Value) (h : Nat.ble 24 a0.tmps.size = true) : (eX.foldl (fun a p => a.put (some p.2) (vs p.1)) a0).tmps[5]? = some (vs 11) := by
  have h := Nat.le_of_ble_eq_true h
  simp only [eX, List.foldl_cons, List.foldl_nil]
  rw [put_slot, if_pos rfl, if_pos (by simp only [put_size]; omega)]
attribute [local go_sem] itA_0 itA_1 itA_2 itA_3 itA_4 itA_5 itA_6 itA_7 itA_8 itA_9 itA_10 itA_11 itA_12 itA_13 itA_14 itA_15 itA_16 itA_17 itA_18 itA_19 itA_20 itA_21
set_option maxRecDepth 100000 in
set_option maxHeartbeats 40000000 in
theorem rext_any (i : It) (harc : i.kind = 3 → arcArg i = true) (w : World) : Calls Tryz.prog 32 #[.agg (itA i)] w fun e w' => e = .returned (.tuple #[.agg (v3A (rextI i).1), .agg (v3A (rextI i).2)]) ∧ Below w.heap.size w w' := by
  obtain ⟨RL, RH, hR⟩ : ∃ a b, rextI i = (a, b) := ⟨_, _, rfl⟩
  rw [hR]
  have HR := Lib.hid hR
  clear hR
  go_enter Tryz.func32, Tryz.ntmps32
  go_upto_region 1 with fail
  refine wp_told (fun W => XZ w i W ∧ W.heap.size = w.heap.size + 1 + 1 + 1)
    ⟨⟨((ItAt.new w i).alloc _).alloc _, (blk_new1 w _ _ _).alloc _, blk_new2 w _ _ _ _, (by (repeat (first | exact Below.refl _ _ | refine Below.drew ?_ | refine Below.alloc ?_ (by first | exact Nat.le_refl _ | (simp; done) | (simp; omega)) _)))⟩, by simp⟩ ?_
  rintro W1 ⟨hz, hsz⟩
  refine wp_region_tab2 13 12 [(0, 14), (1, 15), (2, 16), (3, 17), (4, 18), (5, 19), (6, 20), (7, 21), (8, 22), (9, 23), (10, 4), (11, 5)]
    [[], [(0, 14)], [], [(2, 16)], [(1, 15), (3, 17)], [], [(5, 19)], [], [(7, 21)], [(6, 20), (8, 22)], [], [], [], []]
    [(1, ptrB w.heap.size 0)]
    (JX w i (w.heap.size + 1 + 1 + 1)) (fun W W' => Below W.heap.size W W') (gX i w.heap.size)
    (by kernel_rfl) (by kernel_rfl) (by kernel_rfl) (by kernel_rfl) ?_ ?_ ?_ ?_ ?_
  · intro p hp
    simp only [List.mem_cons, List.not_mem_nil, or_false] at hp
    subst hp
    rfl
  · intro k v w1 w2 hg hv
    exact gX_below hg hv
  · refine ⟨hz.below ((Below.refl _ _).drew), by show _ ≤ W1.heap.size; omega, fun b h => absurd h ?_, fun b h => absurd h ?_, fun b b' h => absurd h ?_⟩
    all_goals (show ¬ (some undef = some (ptrB _ 0)); simp [undef, ptrB])
  · simp only [EachOp]
    refine ⟨fun _ _ => ?_, fun _ _ => ?_, fun _ _ => ?_, fun _ _ => ?_, fun _ _ => ?_, fun _ _ => ?_, fun _ _ => ?_, fun _ _ => ?_, fun _ _ => ?_, fun _ _ => ?_, fun _ _ => ?_, fun _ _ => ?_, fun _ h => absurd rfl h, fun h => absurd rfl h, trivial⟩
    all_goals intro a1 w1 hJ hA hd; simp only [List.getD_cons_zero, List.getD_cons_succ, List.mem_cons, List.not_mem_nil, or_false, forall_eq_or_imp, forall_eq] at hA hd
    all_goals obtain hA : a1.tmps[1]?.getD undef = ptrB w.heap.size 0 := hA
    all_goals unfold ptrB at hA
    · go_simp
      exact ⟨_, rfl, Below.refl _ _, hJ.other (Below.refl _ _) (by decide) (by decide) _, rfl⟩
    · have h1 : a1.tmps[14]?.getD undef = .pointer (some ⟨w.heap.size, 2, none⟩) := hd
      have c2 := hJ.z.i.c2
      have c3 := hJ.z.i.c3
      have c4 := hJ.z.i.c4
      go_simp
      exact ⟨_, rfl, Below.refl _ _, hJ.other (Below.refl _ _) (by decide) (by decide) _, rfl⟩
    · go_simp
      exact ⟨_, rfl, Below.refl _ _, hJ.other (Below.refl _ _) (by decide) (by decide) _, rfl⟩
    · have h1 : a1.tmps[16]?.getD undef = .pointer (some ⟨w.heap.size, 5, none⟩) := hd
      have c2 := hJ.z.i.c5
      have c3 := hJ.z.i.c6
      have c4 := hJ.z.i.c7
      go_simp
      exact ⟨_, rfl, Below.refl _ _, hJ.other (Below.refl _ _) (by decide) (by decide) _, rfl⟩
    · obtain ⟨h1, h2⟩ := hd
      have h1 : a1.tmps[15]?.getD undef = .agg #[.int .i64 i.fx, .int .i64 i.fy, .int .i64 i.fz] := h1
      have h2 : a1.tmps[17]?.getD undef = .agg #[.int .i64 i.tx, .int .i64 i.ty, .int .i64 i.tz] := h2
      go_simp
      refine (rleast_any i.fx i.fy i.fz i.tx i.ty i.tz w1).mono ?_
      rintro e w2 ⟨rfl, b2⟩
      exact ⟨_, rfl, b2, hJ.other b2 (by decide) (by decide) _, rfl⟩
    · go_simp
      exact ⟨_, rfl, Below.refl _ _, hJ.other (Below.refl _ _) (by decide) (by decide) _, rfl⟩
    · have h1 : a1.tmps[19]?.getD undef = .pointer (some ⟨w.heap.size, 2, none⟩) := hd
      have c2 := hJ.z.i.c2
      have c3 := hJ.z.i.c3
      have c4 := hJ.z.i.c4
      go_simp
      exact ⟨_, rfl, Below.refl _ _, hJ.other (Below.refl _ _) (by decide) (by decide) _, rfl⟩
    · go_simp
      exact ⟨_, rfl, Below.refl _ _, hJ.other (Below.refl _ _) (by decide) (by decide) _, rfl⟩
    · have h1 : a1.tmps[21]?.getD undef = .pointer (some ⟨w.heap.size, 5, none⟩) := hd
      have c2 := hJ.z.i.c5
      have c3 := hJ.z.i.c6
      have c4 := hJ.z.i.c7
      go_simp
      exact ⟨_, rfl, Below.refl _ _, hJ.other (Below.refl _ _) (by decide) (by decide) _, rfl⟩
    · obtain ⟨h1, h2⟩ := hd
      have h1 : a1.tmps[20]?.getD undef = .agg #[.int .i64 i.fx, .int .i64 i.fy, .int .i64 i.fz] := h1
      have h2 : a1.tmps[22]?.getD undef = .agg #[.int .i64 i.tx, .int .i64 i.ty, .int .i64 i.tz] := h2
      go_simp
      refine (rmost_any i.fx i.fy i.fz i.tx i.ty i.tz w1).mono ?_
      rintro e w2 ⟨rfl, b2⟩
      exact ⟨_, rfl, b2, hJ.other b2 (by decide) (by decide) _, rfl⟩
    · go_simp
      exact ⟨_, rfl, (Below.refl _ _).alloc (Nat.le_refl _) _, hJ.a4 _, w1.heap.size, rfl, Blk.new _ _ _⟩
    · go_simp
      exact ⟨_, rfl, (Below.refl _ _).alloc (Nat.le_refl _) _, hJ.a5 _, w1.heap.size, rfl, Blk.new _ _ _⟩
  intro vs w1 hJ hG
  have q4 : vs 4 = .agg (v3A (boxLo i.from3 i.to3)) := hG (4, 18) (by simp)
  have q9 : vs 9 = .agg (v3A (boxHi i.from3 i.to3)) := hG (9, 23) (by simp)
  obtain ⟨A, qA, hA⟩ : gX i w.heap.size 10 (vs 10) w1 := hG (10, 4) (by simp)
  obtain ⟨B, qB, hB⟩ : gX i w.heap.size 11 (vs 11) w1 := hG (11, 5) (by simp)
  have sA := hJ.s4 A (by rw [← qA]; exact fold_4 _ vs (by kernel_rfl))
  have sB := hJ.s5 B (by rw [← qB]; exact fold_5 _ vs (by kernel_rfl))
  have hne := hJ.ne A B (by rw [← qA]; exact fold_4 _ vs (by kernel_rfl)) (by rw [← qB]; exact fold_5 _ vs (by kernel_rfl))
  have hz := hJ.z
  clear hG hJ
  refine Wait.mk ?_
  simp only [AtOp, List.foldl_cons, List.foldl_nil]
  rw [q4, q9, qA, qB]
  simp only [Act.put, List.setIfInBounds_toArray, List.set_cons_zero, List.set_cons_succ]
  obtain ⟨lo, hlo⟩ : ∃ l, boxLo i.from3 i.to3 = l := ⟨_, rfl⟩
  obtain ⟨hi, hhi⟩ : ∃ l, boxHi i.from3 i.to3 = l := ⟨_, rfl⟩
  rw [hlo, hhi]
  clear q4 q9 qA qB hsz
  have HLO := Lib.hid hlo
  have HHI := Lib.hid hhi
  have HZ := Lib.hid hz
  clear hlo hhi hz
  refine wo_storeV (.tmp 4) (.tmp 18) A (0, 0, 0) lo rfl rfl hA ?_
  have hA2 := Blk.set3 (p := (0, 0, 0)) hA lo
  have hB2 := hB.skip3 (b := A) (Ne.symm hne) lo
  have hz2 : XZ w i (stV3 w1 A lo) := ⟨HZ.out.i.set3 (by omega) lo, HZ.out.z1.skip3 (by omega) lo, HZ.out.z2.skip3 (by omega) lo, below_set3 HZ.out.bel (by omega) lo⟩
  generalize stV3 w1 A lo = w2 at hA2 hB2 hz2 ⊢
  clear hA hB HZ
  refine wo_storeV (.tmp 5) (.tmp 23) B (0, 0, 0) hi rfl rfl hB2 ?_
  have HA := Lib.hid hA2
  have HB := Lib.hid hB2
  have HZ := Lib.hid hz2
  clear hA2 hB2 hz2
  unfold ptrB v3A
  have hx3 : XR w i A B lo hi (stV3 w2 B hi) := ⟨HZ.out.i.set3 (by omega) hi, HZ.out.z1.skip3 (by omega) hi, HZ.out.z2.skip3 (by omega) hi, HA.out.skip3 hne hi, Blk.set3 (p := (0, 0, 0)) HB.out hi, below_set3 HZ.out.bel (by omega) hi⟩
  clear HA HB HZ
  generalize stV3 w2 B hi = W3 at hx3 ⊢
  have hA1 : w.heap.size + 1 + 1 < A := by omega
  have hB1 : w.heap.size + 1 + 1 < B := by omega
  have c0 := hx3.i.c0
  have HX := Lib.hid hx3
  clear hx3 sA sB
  by_cases hk : i.kind = 3
  rotate_left
  · have k0 : (i.kind != 3) = true := by simpa using hk
    have ER : RL = lo ∧ RH = hi := by
      have := HR.out
      unfold rextI at this
      rw [if_neg hk, HLO.out, HHI.out] at this
      injection this with e1 e2
      exact ⟨e1.symm, e2.symm⟩
    obtain ⟨rfl, rfl⟩ := ER
    clear hk
    have y0 := HX.out.z1.frozen 0
    have y1 := HX.out.z1.frozen 1
    have y2 := HX.out.z1.frozen 2
    have x0 := HX.out.z2.frozen 0
    have x1 := HX.out.z2.frozen 1
    have x2 := HX.out.z2.frozen 2
    have v0 : W3.cell? ⟨w.heap.size + 1, 0, none⟩ = some (.int .i64 0) := HX.out.z1.cell' 0 rfl
    have v1 : W3.cell? ⟨w.heap.size + 1, 1, none⟩ = some (.int .i64 0) := HX.out.z1.cell' 1 rfl
    have v2 : W3.cell? ⟨w.heap.size + 1, 2, none⟩ = some (.int .i64 0) := HX.out.z1.cell' 2 rfl
    have u0 : W3.cell? ⟨w.heap.size + 1 + 1, 0, none⟩ = some (.int .i64 0) := HX.out.z2.cell' 0 rfl
    have u1 : W3.cell? ⟨w.heap.size + 1 + 1, 1, none⟩ = some (.int .i64 0) := HX.out.z2.cell' 1 rfl
    have u2 : W3.cell? ⟨w.heap.size + 1 + 1, 2, none⟩ = some (.int .i64 0) := HX.out.z2.cell' 2 rfl
    go_upto_region 3 with fail
    have HK0 := Lib.hid (⟨HX.out.lo.drew, HX.out.hi.drew⟩ : XE2 A B RL RH W3.drew)
    have hS0 := HK0.out
    refine region_L (XE2 A B RL RH) [3] (by kernel_rfl) ?_
    refine take_L 0 (v := .agg #[.int .i64 RL.1, .int .i64 RL.2.1, .int .i64 RL.2.2]) rfl (by kernel_rfl) (by kernel_rfl) (by kernel_rfl) (by kernel_rfl) (fun _ _ _ h => h) rfl (fun W' hW' => by have q0 : W'.cell? ⟨A, 0, none⟩ = some (.int .i64 RL.1) := hW'.lo.cell' 0 rfl; have q1 : W'.cell? ⟨A, 1, none⟩ = some (.int .i64 RL.2.1) := hW'.lo.cell' 1 rfl; have q2 : W'.cell? ⟨A, 2, none⟩ = some (.int .i64 RL.2.2) := hW'.lo.cell' 2 rfl; go_simp) hS0 ?_
    refine take_L 1 (v := .agg #[.int .i64 RH.1, .int .i64 RH.2.1, .int .i64 RH.2.2]) rfl (by kernel_rfl) (by kernel_rfl) (by kernel_rfl) (by kernel_rfl) (fun _ _ _ h => h) rfl (fun W' hW' => by have q0 : W'.cell? ⟨B, 0, none⟩ = some (.int .i64 RH.1) := hW'.hi.cell' 0 rfl; have q1 : W'.cell? ⟨B, 1, none⟩ = some (.int .i64 RH.2.1) := hW'.hi.cell' 1 rfl; have q2 : W'.cell? ⟨B, 2, none⟩ = some (.int .i64 RH.2.2) := hW'.hi.cell' 2 rfl; go_simp) hS0 ?_
    clear hS0
    refine one_L 2 (by kernel_rfl) rfl rfl fun K2 hK2 => ?_
    have HK2 := Lib.hid hK2
    clear hK2
    go_simp
    refine HK2.out _ _ (fun _ _ => ⟨HX.out.lo.drew.skip3 (b := w.heap.size + 1) (by omega) RL, HX.out.hi.drew.skip3 (b := w.heap.size + 1) (by omega) RL⟩) ?_
    refine one_L 3 (by kernel_rfl) rfl rfl fun K3 hK3 => ?_
    have HK3 := Lib.hid hK3
    clear hK3
    go_simp
    refine HK3.out _ _ (fun h => absurd h (by decide)) ?_
    refine done_L (by kernel_rfl) ?_ _
    clear HK2 HK3 HK0
    go_simp
    go_wp2_with fail
    refine bodyPost_ret (results_cc rfl rfl (show Blk _ (w.heap.size + 1) 23 (v3A RL) from Blk.drew (Blk.skip (Blk.skip (Blk.skip (((HX.out.z1.put 0 _).put 1 _).put 2 _) (by simp) _) (by simp) _) (by simp) _)) Tryz.underlying23 rfl (by kernel_rfl) rfl (show Blk _ (w.heap.size + 1 + 1) 23 (v3A RH) from Blk.drew ((((Blk.skip (Blk.skip (Blk.skip HX.out.z2 (by simp) _) (by simp) _) (by simp) _).put 0 _).put 1 _).put 2 _)) Tryz.underlying23 rfl (by kernel_rfl)) rfl ?_
    exact ⟨rfl, ((((((HX.out.bel.setCell (by show w.heap.size ≤ w.heap.size + 1; omega) _).setCell (by show w.heap.size ≤ w.heap.size + 1; omega) _).setCell (by show w.heap.size ≤ w.heap.size + 1; omega) _).setCell (by show w.heap.size ≤ w.heap.size + 1 + 1; omega) _).setCell (by show w.heap.size ≤ w.heap.size + 1 + 1; omega) _).setCell (by show w.heap.size ≤ w.heap.size + 1 + 1; omega) _).drew⟩
  · have k0 : (i.kind != 3) = false := by simpa using hk
    have hag := harc hk
    unfold arcArg at hag
    simp only [Bool.and_eq_true, decide_eq_true_eq] at hag
    obtain ⟨hx1, hx2, hwf, hwt, hwc, hdir, hx7⟩ := hag
    clear hx1 hx2 hx7
    have bf := fl_bd (p := i.plane) hwf
    have bt := fl_bd (p := i.plane) hwt
    have bc := fl_bd (p := i.plane) hwc
    have b1 : -1048576 ≤ i.fU ∧ i.fU ≤ 1048576 := bf.1
    have b2 : -1048576 ≤ i.fW ∧ i.fW ≤ 1048576 := bf.2
    have b3 : -1048576 ≤ i.tU ∧ i.tU ≤ 1048576 := bt.1
    have b4 : -1048576 ≤ i.tW ∧ i.tW ≤ 1048576 := bt.2
    have b5 : -1048576 ≤ i.cU ∧ i.cU ≤ 1048576 := bc.1
    have b6 : -1048576 ≤ i.cW ∧ i.cW ≤ 1048576 := bc.2
    have e1 : wS i.fU i.cU = i.fU - i.cU := wS_eq (by omega)
    have e2 : wS i.fW i.cW = i.fW - i.cW := wS_eq (by omega)
    have e3 : wS i.tU i.cU = i.tU - i.cU := wS_eq (by omega)
    have e4 : wS i.tW i.cW = i.tW - i.cW := wS_eq (by omega)
    have hau : Sm (wS i.fU i.cU) := by unfold Sm; omega
    have haw : Sm (wS i.fW i.cW) := by unfold Sm; omega
    have hbu : Sm (wS i.tU i.cU) := by unfold Sm; omega
    have hbw : Sm (wS i.tW i.cW) := by unfold Sm; omega
    have n1 := inn_self (wS i.fU i.cU) (wS i.fW i.cW) (by omega) (by omega)
    have n2 := inn_self (wS i.tU i.cU) (wS i.tW i.cW) (by omega) (by omega)
    have KI1 := fun W => rinner_any _ _ _ _ hau haw hau haw W
    have KI2 := fun W => rinner_any _ _ _ _ hbu hbw hbu hbw W
    have KIN := Lib.hid (fun (d1 d2 : Int) (h1 : Sm d1) (h2 : Sm d2) W => rinside_any i d1 d2 hdir hau haw hbu hbw h1 h2 W)
    have KS := Lib.hid (rspokes_any i)
    obtain ⟨r0, hr0⟩ : ∃ r, extR i = r := ⟨_, rfl⟩
    have hrr := hr0
    unfold extR at hrr
    generalize hm1 : inn (wS i.fU i.cU) (wS i.fW i.cW) (wS i.fU i.cU) (wS i.fW i.cW) = m1 at KI1 n1 hrr
    generalize hm2 : inn (wS i.tU i.cU) (wS i.tW i.cW) (wS i.tU i.cU) (wS i.tW i.cW) = m2 at KI2 n2 hrr
    obtain ⟨m, hm⟩ : ∃ m : Nat, mxI m1 m2 = (m : Int) := ⟨(mxI m1 m2).toNat, by unfold mxI; split <;> omega⟩
    have hml : m ≤ 35184372088832 := by have := hm; unfold mxI at this; split at this <;> omega
    rw [hm, Int.toNat_natCast] at hrr
    have hrl : upR m ≤ 8388608 := upR_le (by omega)
    rw [hrr] at hrl
    have KQ := rsqrt_up m (by omega)
    rw [hrr] at KQ
    have hmx : (if m1 < m2 then m2 else m1) = (m : Int) := hm
    obtain ⟨r, hre⟩ : ∃ r : Int, (r0 : Int) = r := ⟨_, rfl⟩
    rw [hre] at KQ
    have hr1 : 0 ≤ r ∧ r ≤ 8388608 := by omega
    have HRR := Lib.hid (show ((extR i : Nat) : Int) = r by rw [hr0]; exact hre)
    clear hwf hwt hwc bf bt bc hr0 hm hml hrl hrr hm1 hm2 n1 n2 hre e1 e2 e3 e4 hdir
    go_wp2_with ((with_reducible refine go_loadI (.tmp 1) w.heap.size i (by with_unfolding_all rfl) HX.out.i ?_))
    refine (KS.out W3).mono ?_
    rintro e W4 ⟨rfl, b4'⟩
    have HX4 := Lib.hid (HX.out.below b4')
    clear b4' HX KS c0
    go_upto_region 5 with fail
    refine wp_told (fun W => XR w i A B lo hi W ∧ Blk W W4.heap.size 88 #[.int .i64 (wS i.fU i.cU), .int .i64 (wS i.fW i.cW)] ∧ Blk W (W4.heap.size + 1) 88 #[.int .i64 (wS i.tU i.cU), .int .i64 (wS i.tW i.cW)])
      ⟨(HX4.out.alloc _).alloc _, (Blk.new W4 _ _).alloc _, blk_new1 W4 _ _ _⟩ ?_
    clear HX4
    rintro W5 hs5
    obtain ⟨N, hNe⟩ : ∃ N, W4.heap.size = N := ⟨_, rfl⟩
    rw [hNe] at hs5 ⊢
    clear hNe
    let S : World → Prop := fun W => XR w i A B lo hi W ∧ Blk W N 88 #[.int .i64 (wS i.fU i.cU), .int .i64 (wS i.fW i.cW)] ∧ Blk W (N + 1) 88 #[.int .i64 (wS i.tU i.cU), .int .i64 (wS i.tW i.cW)]
    have hs : S W5.drew := ⟨hs5.1.drew, hs5.2.1.drew, hs5.2.2.drew⟩
    have inst : Nonempty (At S) := ⟨⟨_, hs⟩⟩
    have SB : ∀ W W', S W → Below W.heap.size W W' → S W' := fun W W' h b => ⟨h.1.below b, h.2.1.below b h.2.1.lt, h.2.2.below b h.2.2.lt⟩
    have I1 := Lib.hid (fun q : At S => (KI1 q.w).mono (fun e w' h => (⟨h.1, SB _ _ q.ok h.2⟩ : e = .returned (.int .i64 m1) ∧ S w')))
    have I2 := Lib.hid (fun q : At S => (KI2 q.w).mono (fun e w' h => (⟨h.1, SB _ _ q.ok h.2⟩ : e = .returned (.int .i64 m2) ∧ S w')))
    have I3 := Lib.hid (fun q : At S => (KQ q.w).mono (fun e w' h => (⟨h.1, SB _ _ q.ok h.2⟩ : e = .returned (.tuple #[.int .i64 r, .bool true]) ∧ S w')))
    have L1 := Lib.hid (fun q : At S => (show (Instr.loadAt 88 (.pointer (some ⟨N, 0, none⟩))).run Tryz.prog q.w = .ok (.agg #[.int .i64 (wS i.fU i.cU), .int .i64 (wS i.fW i.cW)]) q.w from load_of (cs := [.int .i64 (wS i.fU i.cU), .int .i64 (wS i.fW i.cW)]) q.ok.2.1 Tryz.underlying88 rfl (by kernel_rfl)))
    have L2 := Lib.hid (fun q : At S => (show (Instr.loadAt 88 (.pointer (some ⟨N + 1, 0, none⟩))).run Tryz.prog q.w = .ok (.agg #[.int .i64 (wS i.tU i.cU), .int .i64 (wS i.tW i.cW)]) q.w from load_of (cs := [.int .i64 (wS i.tU i.cU), .int .i64 (wS i.tW i.cW)]) q.ok.2.2 Tryz.underlying88 rfl (by kernel_rfl)))
    have HFIN : Hid (∀ q : At S, XR w i A B lo hi q.w) := Lib.hid (fun q : At S => q.ok.1)
    clear KI1 KI2 KQ SB hs5
    clear_value S
    refine wp_region_at S (by kernel_rfl) (by kernel_rfl) hs ?_
    try simp only [List.append_eq, List.cons_append, List.nil_append]
    repeat (first
      | (go_big_quiet_want; (first
          | refine quiet_load 88 (.tmp 6) rfl _ _ rfl L1.out ?_
          | refine quiet_load 88 (.tmp 7) rfl _ _ rfl L2.out ?_); simp only [Act.put, List.setIfInBounds_toArray, List.set_cons_zero, List.set_cons_succ]; go_big_quiet_on)
      | go_big_quiet_step (first | with_reducible exact Calls.at_of (I1.out _) fun e w' h => ⟨h.1, h.2⟩ | with_reducible exact Calls.at_of (I2.out _) fun e w' h => ⟨h.1, h.2⟩ | with_reducible exact Calls.at_of (I3.out _) fun e w' h => ⟨h.1, h.2⟩))
    refine wpQuiet_nil ?_
    rintro _ ⟨p, rfl⟩
    have hx6 := HFIN.out p
    generalize p.w = W6 at hx6 ⊢
    clear HFIN inst hs I1 I2 I3 L1 L2
    have HX6 := Lib.hid hx6
    clear hx6
    obtain ⟨i0, hi0, hz0, hz1, hz2⟩ := info_parts infoPt
    go_upto_region 7 with ((with_reducible refine go_buildSlice 100 88 4 _ dirC i0 _ Tryz.underlying100 hi0 hz0 (by rw [hz1]; decide) (by rw [hz1]; decide) (by rw [hz1]; with_unfolding_all kernel_rfl) ?_))
    clear hz0 hz1 hz2 hi0
    refine wp_told (fun W => XR w i A B lo hi W ∧ Blk W W6.heap.size 88 dirC) ⟨HX6.out.alloc _, Blk.new _ _ _⟩ ?_
    rintro W7 ⟨hx7, hd7⟩
    obtain ⟨D, hDe⟩ : ∃ D, W6.heap.size = D := ⟨_, rfl⟩
    rw [hDe] at hd7 ⊢
    have hAD : A < D := by rw [← hDe]; exact HX6.out.lo.lt
    have hBD : B < D := by rw [← hDe]; exact HX6.out.hi.lt
    have HX7 := Lib.hid hx7
    have HD7 := Lib.hid hd7
    clear hDe hx7 hd7 HX6
    obtain ⟨lo0, hl0⟩ : ∃ l, lo = l := ⟨_, rfl⟩
    obtain ⟨hi0, hh0⟩ : ∃ l, hi = l := ⟨_, rfl⟩
    have HFIN : Hid (dirL.foldl (rextS i r) (lo0, hi0) = (RL, RH)) := Lib.hid (by
      have := HR.out
      unfold rextI at this
      rw [if_pos hk, HLO.out, HHI.out, HRR.out] at this
      rw [← hl0, ← hh0]
      exact this)
    rw [hl0, hh0] at HX7
    clear hl0 hh0 hk HR HLO HHI HRR
    go_wp2_with fail
    go_loopw [11] (fun s11 wr => ∃ (k : Nat) (lo hi : V3), k ≤ 4 ∧ s11 = .int .i64 k ∧ (dirL.take k).foldl (rextS i r) (lo0, hi0) = (lo, hi) ∧ XR w i A B lo hi wr ∧ Blk wr D 88 dirC)
      (fun s11 _ => 4 - (intOf s11).toNat)
    case atStart => exact ⟨0, lo0, hi0, by omega, rfl, rfl, HX7.out, HD7.out⟩
    case round =>
      obtain ⟨k, lo, hi, hk4, rfl, hfo, hx, hd⟩ := hrel
      have HX := Lib.hid hx
      have HD := Lib.hid hd
      have HFO := Lib.hid hfo
      clear hx hd hfo HX7 HD7
      by_cases hk3 : k < 4
      · obtain ⟨d1, d2, hd12, ⟨hb1, hb2⟩, ⟨hb3, hb4⟩, hc1, hc2⟩ := dir_get hk3
        have HDD := Lib.hid hd12
        have HDC := Lib.hid (And.intro hc1 hc2)
        have e4 : decide (k < 4) = true := decide_eq_true hk3
        have e4' : decide ((k : Int) < 4) = true := decide_eq_true (by omega)
        have i1 : (0 : Int) ≤ (k : Int) := by omega
        have i2 : (k : Int) < 4 := by omega
        have KN := fun W => KIN.out d1 d2 (by unfold Sm; omega) (by unfold Sm; omega) W
        obtain ⟨ins, hins⟩ : ∃ b, rinsV i d1 d2 = b := ⟨_, rfl⟩
        rw [hins] at KN
        have HIN := Lib.hid hins
        clear hins hd12 hc1 hc2
        go_upto_region 10 with fail
        let S : World → Prop := fun W => XR w i A B lo hi W ∧ Blk W D 88 dirC
        have hs : S wr.drew := ⟨HX.out.drew, HD.out.drew⟩
        have inst : Nonempty (At S) := ⟨⟨_, hs⟩⟩
        have I1 := Lib.hid (fun q : At S => (KN q.w).mono (fun e w' h => (⟨h.1, q.ok.1.below h.2, q.ok.2.below h.2 q.ok.2.lt⟩ : e = .returned (.bool ins) ∧ S w')))
        have L1 := Lib.hid (fun q : At S => (show (Instr.loadAt 25 (.pointer (some ⟨w.heap.size, 0, none⟩))).run Tryz.prog q.w = .ok (.agg (itA i)) q.w from load_of (cs := (itA i).toList) q.ok.1.i Tryz.underlying25 rfl (by kernel_rfl)))
        have L2 := Lib.hid (fun q : At S => (show (Instr.loadAt 88 (.pointer (some ⟨D, k * 2, none⟩))).run Tryz.prog q.w = .ok (.agg #[.int .i64 d1, .int .i64 d2]) q.w from run_loadAt_mid q.w D (k * 2) 88 [.int .i64 d1, .int .i64 d2] _ (fun j v hv => by
          rw [q.ok.2.cell]
          rcases j with _ | _ | j
          · rw [← hv]; exact HDC.out.1
          · rw [← hv]; exact HDC.out.2
          · simp at hv) Tryz.underlying88 rfl (by kernel_rfl)))
        have HF2 : Hid (∀ q : At S, XR w i A B lo hi q.w ∧ Blk q.w D 88 dirC) := Lib.hid (fun q : At S => q.ok)
        clear KN HX HD
        clear_value S
        refine wp_region_at S (by kernel_rfl) (by kernel_rfl) hs ?_
        try simp only [List.append_eq, List.cons_append, List.nil_append]
        repeat (first
          | (go_big_quiet_want; (first
              | refine quiet_load 25 (.tmp 1) rfl _ _ rfl L1.out ?_
              | refine quiet_load 88 (.tmp 59) rfl _ _ rfl L2.out ?_); simp only [Act.put, List.setIfInBounds_toArray, List.set_cons_zero, List.set_cons_succ]; go_big_quiet_on)
          | go_big_quiet_step (first | with_reducible exact Calls.at_of (I1.out _) fun e w' h => ⟨h.1, h.2⟩))
        refine wpQuiet_nil ?_
        rintro _ ⟨p, rfl⟩
        obtain ⟨hx6, hd6⟩ := HF2.out p
        generalize p.w = W6 at hx6 hd6 ⊢
        clear HF2 inst hs I1 L1 L2
        have c8 := hx6.i.c8
        have c9 := hx6.i.c9
        have c10 := hx6.i.c10
        have c11 := hx6.i.c11
        have HX6 := Lib.hid hx6
        have HD6 := Lib.hid hd6
        clear hx6 hd6
        cases ins
        · go_wp2_with fail
          go_roundw
          case rel => exact ⟨k + 1, lo, hi, by omega, by go_num, by rw [take_snoc HDD.out, List.foldl_append, HFO.out]; show rextS i r (lo, hi) (d1, d2) = _; unfold rextS; rw [if_neg (by rw [HIN.out]; decide)], HX6.out, HD6.out⟩
          case measure => simp [intOf] <;> omega
        · have KP : Calls Tryz.prog 69 #[.int .i64 i.plane, .agg #[.int .i64 i.cx, .int .i64 i.cy, .int .i64 i.cz]] W6 fun e w' => e = .returned (.agg #[.int .i64 i.cU, .int .i64 i.cW]) ∧ Below W6.heap.size W6 w' := rpt_any i.plane i.cx i.cy i.cz W6
          have KP := Lib.hid KP
          go_wp2_with fail
          refine KP.out.mono ?_
          rintro e W7 ⟨rfl, b7⟩
          have HX7 := Lib.hid (HX6.out.below b7)
          have HD7 := Lib.hid (HD6.out.below b7 HD6.out.lt)
          clear b7 KP c8 c9 c10 c11 HX6 HD6
          go_upto_region 12 with fail
          refine wp_told (fun W => XR w i A B lo hi W ∧ Blk W D 88 dirC ∧ Blk W W7.heap.size 88 #[.int .i64 i.cU, .int .i64 i.cW] ∧ W7.heap.size + 1 ≤ W.heap.size) ⟨HX7.out.alloc _, HD7.out.alloc _, Blk.new W7 _ _, by simp⟩ ?_
          rintro W8 ⟨hx8, hd8, hc8, hn8⟩
          obtain ⟨C, hCe⟩ : ∃ C, W7.heap.size = C := ⟨_, rfl⟩
          have hDC : D < C := by rw [← hCe]; exact HD7.out.lt
          rw [hCe] at hc8 hn8 ⊢
          obtain ⟨N, hN⟩ : ∃ N, C + 1 = N := ⟨_, rfl⟩
          rw [hN] at hn8
          have HX8 := Lib.hid hx8
          have HD8 := Lib.hid hd8
          have HC8 := Lib.hid hc8
          have HN8 := Lib.hid hn8
          clear hCe hx8 hd8 hc8 hn8 HX7 HD7
          have m1 := mul_bd (B := 8388608) (by decide) (show -8388608 ≤ r ∧ r ≤ 8388608 by omega) (show -8388608 ≤ d1 ∧ d1 ≤ 8388608 by omega)
          have m2 := mul_bd (B := 8388608) (by decide) (show -8388608 ≤ r ∧ r ≤ 8388608 by omega) (show -8388608 ≤ d2 ∧ d2 ≤ 8388608 by omega)
          have w1 : IntKind.i64.wrap (r * d1) = r * d1 := by rw [IntKind.wrap_i64]; omega
          have w2 : IntKind.i64.wrap (r * d2) = r * d2 := by rw [IntKind.wrap_i64]; omega
          have w3 : IntKind.i64.wrap (i.cU + r * d1) = i.cU + r * d1 := by rw [IntKind.wrap_i64]; omega
          have w4 : IntKind.i64.wrap (i.cW + r * d2) = i.cW + r * d2 := by rw [IntKind.wrap_i64]; omega
          clear m1 m2
          refine wp_region_tabS 30 [(0, 67), (1, 68), (2, 69), (3, 70), (4, 71), (5, 72), (6, 73), (7, 74), (8, 75), (9, 76), (10, 77), (11, 78), (12, 79), (13, 80), (14, 81), (15, 82), (16, 83), (17, 84), (18, 85), (19, 86), (20, 87), (21, 88), (22, 89), (23, 90), (24, 91), (25, 92), (26, 93), (27, 94), (28, 95), (29, 13)]
            [[], [(0, 67)], [], [(2, 69)], [], [], [], [(5, 72), (6, 73)], [(7, 74)], [(8, 75)], [(4, 71), (9, 76)], [(3, 70), (10, 77)], [], [(12, 79)], [], [], [], [(15, 82), (16, 83)], [(17, 84)], [(18, 85)], [(14, 81), (19, 86)], [(13, 80), (20, 87)], [(11, 78), (21, 88)], [], [(23, 90)], [], [(25, 92)], [(24, 91), (26, 93)], [(1, 68), (22, 89), (27, 94)], [], []]
            [(1, .pointer (some ⟨w.heap.size, 0, none⟩)), (12, .pointer (some ⟨C, 0, none⟩)), (8, .int .i64 r), (10, .slice (some ⟨D, 0, none⟩) 4 4), (11, .int .i64 ((k : Nat)))]
            (fun W => XR w i A B lo hi W ∧ Blk W D 88 dirC ∧ Blk W C 88 #[.int .i64 i.cU, .int .i64 i.cW] ∧ N ≤ W.heap.size) (fun W W' => Below W.heap.size W W') (gY i r w.heap.size D C k N d1 d2)
            (by kernel_rfl) (by kernel_rfl) (by kernel_rfl) (by kernel_rfl) ?_ ?_ ?_ ?_ ?_
          · intro p hp
            simp only [List.mem_cons, List.not_mem_nil, or_false] at hp
            rcases hp with rfl | rfl | rfl | rfl | rfl <;> rfl
          · intro k v w1 w2 hg hv
            exact gY_below hg hv
          · exact ⟨HX8.out.drew, HD8.out.drew, HC8.out.drew, HN8.out⟩
          · simp only [EachOp]
            refine ⟨fun _ => ?_, fun _ => ?_, fun _ => ?_, fun _ => ?_, fun _ => ?_, fun _ => ?_, fun _ => ?_, fun _ => ?_, fun _ => ?_, fun _ => ?_, fun _ => ?_, fun _ => ?_, fun _ => ?_, fun _ => ?_, fun _ => ?_, fun _ => ?_, fun _ => ?_, fun _ => ?_, fun _ => ?_, fun _ => ?_, fun _ => ?_, fun _ => ?_, fun _ => ?_, fun _ => ?_, fun _ => ?_, fun _ => ?_, fun _ => ?_, fun _ => ?_, fun _ => ?_, fun _ => ?_, fun h => absurd rfl h, trivial⟩
            all_goals intro a1 w1 hJ hA hd; have HJ := Lib.hid hJ; clear hJ; (try simp only [List.getD_cons_zero, List.getD_cons_succ, List.mem_cons, List.not_mem_nil, or_false, forall_eq_or_imp, forall_eq] at hA); (try simp only [List.getD_cons_zero, List.getD_cons_succ, List.mem_cons, List.not_mem_nil, or_false, forall_eq_or_imp, forall_eq] at hd); obtain ⟨k1, k12, k8, k10, k11⟩ := hA
            · clear k12 k8 k10 k11
              go_simp
              exact ⟨_, rfl, Below.refl _ _, HJ.out, rfl⟩
            · have h0 := hd
              have h0 : a1.tmps[67]?.getD undef = .pointer (some ⟨w.heap.size, 8, none⟩) := h0
              clear hd
              clear k1 k12 k8 k10 k11
              have c8 := HJ.out.1.i.c8
              go_simp
              exact ⟨_, rfl, Below.refl _ _, HJ.out, rfl⟩
            · clear k1 k8 k10 k11
              go_simp
              exact ⟨_, rfl, Below.refl _ _, HJ.out, rfl⟩
            · have h2 := hd
              have h2 : a1.tmps[69]?.getD undef = .pointer (some ⟨C, 0, none⟩) := h2
              clear hd
              clear k1 k12 k8 k10 k11
              have c0 : w1.cell? ⟨C, 0, none⟩ = some (.int .i64 i.cU) := HJ.out.2.2.1.cell' 0 rfl
              go_simp
              exact ⟨_, rfl, Below.refl _ _, HJ.out, rfl⟩
            · refine BigFrame.wp_move _ rfl ⟨_, rfl, Below.refl _ _, HJ.out, ?_⟩
              show a1.tmps.getD 8 undef = _
              rw [Array.getD_eq_getD_getElem?]
              exact k8
            · refine BigFrame.wp_move _ rfl ⟨_, rfl, Below.refl _ _, HJ.out, ?_⟩
              show a1.tmps.getD 10 undef = _
              rw [Array.getD_eq_getD_getElem?]
              exact k10
            · refine BigFrame.wp_move _ rfl ⟨_, rfl, Below.refl _ _, HJ.out, ?_⟩
              show a1.tmps.getD 11 undef = _
              rw [Array.getD_eq_getD_getElem?]
              exact k11
            · obtain ⟨h5, h6⟩ := hd
              have h5 : a1.tmps[72]?.getD undef = .slice (some ⟨D, 0, none⟩) 4 4 := h5
              have h6 : a1.tmps[73]?.getD undef = .int .i64 ((k : Nat)) := h6
              clear k1 k12 k8 k10 k11
              go_simp
              exact ⟨_, rfl, Below.refl _ _, HJ.out, rfl⟩
            · have h7 := hd
              have h7 : a1.tmps[74]?.getD undef = .pointer (some ⟨D, k * 2, none⟩) := h7
              clear hd
              clear k1 k12 k8 k10 k11
              go_simp
              exact ⟨_, rfl, Below.refl _ _, HJ.out, rfl⟩
            · have h8 := hd
              have h8 : a1.tmps[75]?.getD undef = .pointer (some ⟨D, k * 2, none⟩) := h8
              clear hd
              clear k1 k12 k8 k10 k11
              have c0 : w1.cell? ⟨D, k * 2, none⟩ = some (.int .i64 d1) := (HJ.out.2.1.cell _).trans HDC.out.1
              go_simp
              exact ⟨_, rfl, Below.refl _ _, HJ.out, rfl⟩
            · obtain ⟨h4, h9⟩ := hd
              have h4 : a1.tmps[71]?.getD undef = .int .i64 r := h4
              have h9 : a1.tmps[76]?.getD undef = .int .i64 d1 := h9
              clear k1 k12 k8 k10 k11
              go_simp
              exact ⟨_, rfl, Below.refl _ _, HJ.out, rfl⟩
            · obtain ⟨h3, h10⟩ := hd
              have h3 : a1.tmps[70]?.getD undef = .int .i64 i.cU := h3
              have h10 : a1.tmps[77]?.getD undef = .int .i64 (r * d1) := h10
              clear k1 k12 k8 k10 k11
              go_simp
              exact ⟨_, rfl, Below.refl _ _, HJ.out, rfl⟩
            · clear k1 k8 k10 k11
              go_simp
              exact ⟨_, rfl, Below.refl _ _, HJ.out, rfl⟩
            · have h12 := hd
              have h12 : a1.tmps[79]?.getD undef = .pointer (some ⟨C, 1, none⟩) := h12
              clear hd
              clear k1 k12 k8 k10 k11
              have c0 : w1.cell? ⟨C, 1, none⟩ = some (.int .i64 i.cW) := HJ.out.2.2.1.cell' 1 rfl
              go_simp
              exact ⟨_, rfl, Below.refl _ _, HJ.out, rfl⟩
            · refine BigFrame.wp_move _ rfl ⟨_, rfl, Below.refl _ _, HJ.out, ?_⟩
              show a1.tmps.getD 8 undef = _
              rw [Array.getD_eq_getD_getElem?]
              exact k8
            · refine BigFrame.wp_move _ rfl ⟨_, rfl, Below.refl _ _, HJ.out, ?_⟩
              show a1.tmps.getD 10 undef = _
              rw [Array.getD_eq_getD_getElem?]
              exact k10
            · refine BigFrame.wp_move _ rfl ⟨_, rfl, Below.refl _ _, HJ.out, ?_⟩
              show a1.tmps.getD 11 undef = _
              rw [Array.getD_eq_getD_getElem?]
              exact k11
            · obtain ⟨h15, h16⟩ := hd
              have h15 : a1.tmps[82]?.getD undef = .slice (some ⟨D, 0, none⟩) 4 4 := h15
              have h16 : a1.tmps[83]?.getD undef = .int .i64 ((k : Nat)) := h16
              clear k1 k12 k8 k10 k11
              go_simp
              exact ⟨_, rfl, Below.refl _ _, HJ.out, rfl⟩
            · have h17 := hd
              have h17 : a1.tmps[84]?.getD undef = .pointer (some ⟨D, k * 2, none⟩) := h17
              clear hd
              clear k1 k12 k8 k10 k11
              go_simp
              exact ⟨_, rfl, Below.refl _ _, HJ.out, rfl⟩
            · have h18 := hd
              have h18 : a1.tmps[85]?.getD undef = .pointer (some ⟨D, k * 2 + 1, none⟩) := h18
              clear hd
              clear k1 k12 k8 k10 k11
              have c0 : w1.cell? ⟨D, k * 2 + 1, none⟩ = some (.int .i64 d2) := (HJ.out.2.1.cell _).trans HDC.out.2
              go_simp
              exact ⟨_, rfl, Below.refl _ _, HJ.out, rfl⟩
            · obtain ⟨h14, h19⟩ := hd
              have h14 : a1.tmps[81]?.getD undef = .int .i64 r := h14
              have h19 : a1.tmps[86]?.getD undef = .int .i64 d2 := h19
              clear k1 k12 k8 k10 k11
              go_simp
              exact ⟨_, rfl, Below.refl _ _, HJ.out, rfl⟩
            · obtain ⟨h13, h20⟩ := hd
              have h13 : a1.tmps[80]?.getD undef = .int .i64 i.cW := h13
              have h20 : a1.tmps[87]?.getD undef = .int .i64 (r * d2) := h20
              clear k1 k12 k8 k10 k11
              go_simp
              exact ⟨_, rfl, Below.refl _ _, HJ.out, rfl⟩
            · obtain ⟨h11, h21⟩ := hd
              have h11 : a1.tmps[78]?.getD undef = .int .i64 (i.cU + r * d1) := h11
              have h21 : a1.tmps[88]?.getD undef = .int .i64 (i.cW + r * d2) := h21
              clear k1 k12 k8 k10 k11
              go_simp
              exact ⟨_, rfl, Below.refl _ _, HJ.out, rfl⟩
            · clear k12 k8 k10 k11
              go_simp
              exact ⟨_, rfl, Below.refl _ _, HJ.out, rfl⟩
            · have h23 := hd
              have h23 : a1.tmps[90]?.getD undef = .pointer (some ⟨w.heap.size, 8, none⟩) := h23
              clear hd
              clear k1 k12 k8 k10 k11
              have c8 := HJ.out.1.i.c8
              go_simp
              exact ⟨_, rfl, Below.refl _ _, HJ.out, rfl⟩
            · clear k12 k8 k10 k11
              go_simp
              exact ⟨_, rfl, Below.refl _ _, HJ.out, rfl⟩
            · have h25 := hd
              have h25 : a1.tmps[92]?.getD undef = .pointer (some ⟨w.heap.size, 2, none⟩) := h25
              clear hd
              clear k1 k12 k8 k10 k11
              have c2 := HJ.out.1.i.c2
              have c3 := HJ.out.1.i.c3
              have c4 := HJ.out.1.i.c4
              go_simp
              exact ⟨_, rfl, Below.refl _ _, HJ.out, rfl⟩
            · obtain ⟨h24, h26⟩ := hd
              have h24 : a1.tmps[91]?.getD undef = .int .i64 i.plane := h24
              have h26 : a1.tmps[93]?.getD undef = .agg #[.int .i64 i.fx, .int .i64 i.fy, .int .i64 i.fz] := h26
              clear k1 k12 k8 k10 k11
              go_simp
              refine (rheight_any i.plane i.fx i.fy i.fz w1).mono ?_
              rintro e w2 ⟨rfl, b2⟩
              exact ⟨_, rfl, b2, ⟨HJ.out.1.below b2, HJ.out.2.1.below b2 HJ.out.2.1.lt, HJ.out.2.2.1.below b2 HJ.out.2.2.1.lt, Nat.le_trans HJ.out.2.2.2 b2.size⟩, rfl⟩
            · obtain ⟨h1, h22, h27⟩ := hd
              have h1 : a1.tmps[68]?.getD undef = .int .i64 i.plane := h1
              have h22 : a1.tmps[89]?.getD undef = .agg #[.int .i64 (i.cU + r * d1), .int .i64 (i.cW + r * d2)] := h22
              have h27 : a1.tmps[94]?.getD undef = .int .i64 i.fH := h27
              clear k1 k12 k8 k10 k11
              go_simp
              refine (rat_any i.plane (i.cU + r * d1) (i.cW + r * d2) i.fH w1).mono ?_
              rintro e w2 ⟨rfl, b2⟩
              exact ⟨_, rfl, b2, ⟨HJ.out.1.below b2, HJ.out.2.1.below b2 HJ.out.2.1.lt, HJ.out.2.2.1.below b2 HJ.out.2.2.1.lt, Nat.le_trans HJ.out.2.2.2 b2.size⟩, rfl⟩
            · clear k1 k12 k8 k10 k11 hd
              go_simp
              exact ⟨_, rfl, (Below.refl _ _).alloc (Nat.le_refl _) _, ⟨HJ.out.1.alloc _, HJ.out.2.1.alloc _, HJ.out.2.2.1.alloc _, Nat.le_succ_of_le HJ.out.2.2.2⟩, w1.heap.size, rfl, HJ.out.2.2.2, Blk.new _ _ _⟩
          intro vs w9 hJ hG
          have q28 : vs 28 = .agg (v3A (rextP i r (d1, d2))) := hG (28, 95) (by simp)
          obtain ⟨E, qE, hNE, hE⟩ : gY i r w.heap.size D C k N d1 d2 29 (vs 29) w9 := hG (29, 13) (by simp)
          obtain ⟨hx9, hd9, _, _⟩ := hJ
          clear hG w1 w2 w3 w4 HX8 HD8 HC8 HN8
          refine Wait.mk ?_
          simp only [AtOp, List.foldl_cons, List.foldl_nil]
          rw [q28, qE]
          simp only [Act.put, List.setIfInBounds_toArray, List.set_cons_zero, List.set_cons_succ]
          obtain ⟨q, hq⟩ : ∃ q, rextP i r (d1, d2) = q := ⟨_, rfl⟩
          rw [hq]
          have HQ := Lib.hid hq
          clear q28 qE hq
          unfold ptrB
          have hED : D < E := by omega
          refine wo_storeV (.tmp 13) (.tmp 95) E (0, 0, 0) q rfl rfl hE ?_
          have HX9 := Lib.hid (hx9.far (E := E) (by omega) (by omega) (by omega) q)
          have HD9 := Lib.hid (hd9.skip3 (b := E) (by omega) q)
          have HE9 := Lib.hid (Blk.set3 (p := (0, 0, 0)) hE q)
          clear hx9 hd9 hE
          generalize stV3 w9 E q = w10 at HX9 HD9 HE9 ⊢
          go_upto_region 13 with fail
          refine wp_region_tab2 7 6 [(0, 96), (1, 97), (2, 98), (3, 99), (4, 100), (5, 101)] [[], [], [(0, 96), (1, 97)], [], [], [(3, 99), (4, 100)], [], []]
            [(4, .pointer (some ⟨A, 0, none⟩)), (13, .pointer (some ⟨E, 0, none⟩)), (5, .pointer (some ⟨B, 0, none⟩))]
            (fun _ W => XR w i A B lo hi W ∧ Blk W D 88 dirC ∧ Blk W E 23 (v3A q)) (fun W W' => Below W.heap.size W W') (gZ lo hi q)
            (by kernel_rfl) (by kernel_rfl) (by kernel_rfl) (by kernel_rfl) ?_ ?_ ?_ ?_ ?_
          · intro p hp
            simp only [List.mem_cons, List.not_mem_nil, or_false] at hp
            rcases hp with rfl | rfl | rfl <;> rfl
          · intro k v w1 w2 hg hv
            exact gZ_below hv
          · exact ⟨HX9.out.drew, HD9.out.drew, HE9.out.drew⟩
          · simp only [EachOp]
            refine ⟨fun _ _ => ?_, fun _ _ => ?_, fun _ _ => ?_, fun _ _ => ?_, fun _ _ => ?_, fun _ _ => ?_, fun _ h => absurd rfl h, fun h => absurd rfl h, trivial⟩
            all_goals intro a1 w1 hJ hA hd; have HJ := Lib.hid hJ; clear hJ; (try simp only [List.getD_cons_zero, List.getD_cons_succ, List.mem_cons, List.not_mem_nil, or_false, forall_eq_or_imp, forall_eq] at hA); (try simp only [List.getD_cons_zero, List.getD_cons_succ, List.mem_cons, List.not_mem_nil, or_false, forall_eq_or_imp, forall_eq] at hd); obtain ⟨k4, k13, k5⟩ := hA
            · clear k13 k5
              have c0 : w1.cell? ⟨A, 0, none⟩ = some (.int .i64 lo.1) := HJ.out.1.lo.cell' 0 rfl
              have c1 : w1.cell? ⟨A, 1, none⟩ = some (.int .i64 lo.2.1) := HJ.out.1.lo.cell' 1 rfl
              have c2 : w1.cell? ⟨A, 2, none⟩ = some (.int .i64 lo.2.2) := HJ.out.1.lo.cell' 2 rfl
              go_simp
              exact ⟨_, rfl, Below.refl _ _, HJ.out, rfl⟩
            · clear k4 k5
              have c0 : w1.cell? ⟨E, 0, none⟩ = some (.int .i64 q.1) := HJ.out.2.2.cell' 0 rfl
              have c1 : w1.cell? ⟨E, 1, none⟩ = some (.int .i64 q.2.1) := HJ.out.2.2.cell' 1 rfl
              have c2 : w1.cell? ⟨E, 2, none⟩ = some (.int .i64 q.2.2) := HJ.out.2.2.cell' 2 rfl
              go_simp
              exact ⟨_, rfl, Below.refl _ _, HJ.out, rfl⟩
            · clear k4 k13 k5
              obtain ⟨h1, h2⟩ := hd
              have h1 : a1.tmps[96]?.getD undef = .agg #[.int .i64 lo.1, .int .i64 lo.2.1, .int .i64 lo.2.2] := h1
              have h2 : a1.tmps[97]?.getD undef = .agg #[.int .i64 q.1, .int .i64 q.2.1, .int .i64 q.2.2] := h2
              go_simp
              refine (rleast_any lo.1 lo.2.1 lo.2.2 q.1 q.2.1 q.2.2 w1).mono ?_
              rintro e w2 ⟨rfl, b2⟩
              exact ⟨_, rfl, b2, ⟨HJ.out.1.below b2, HJ.out.2.1.below b2 HJ.out.2.1.lt, HJ.out.2.2.below b2 HJ.out.2.2.lt⟩, rfl⟩
            · clear k4 k13
              have c0 : w1.cell? ⟨B, 0, none⟩ = some (.int .i64 hi.1) := HJ.out.1.hi.cell' 0 rfl
              have c1 : w1.cell? ⟨B, 1, none⟩ = some (.int .i64 hi.2.1) := HJ.out.1.hi.cell' 1 rfl
              have c2 : w1.cell? ⟨B, 2, none⟩ = some (.int .i64 hi.2.2) := HJ.out.1.hi.cell' 2 rfl
              go_simp
              exact ⟨_, rfl, Below.refl _ _, HJ.out, rfl⟩
            · clear k4 k5
              have c0 : w1.cell? ⟨E, 0, none⟩ = some (.int .i64 q.1) := HJ.out.2.2.cell' 0 rfl
              have c1 : w1.cell? ⟨E, 1, none⟩ = some (.int .i64 q.2.1) := HJ.out.2.2.cell' 1 rfl
              have c2 : w1.cell? ⟨E, 2, none⟩ = some (.int .i64 q.2.2) := HJ.out.2.2.cell' 2 rfl
              go_simp
              exact ⟨_, rfl, Below.refl _ _, HJ.out, rfl⟩
            · clear k4 k13 k5
              obtain ⟨h1, h2⟩ := hd
              have h1 : a1.tmps[99]?.getD undef = .agg #[.int .i64 hi.1, .int .i64 hi.2.1, .int .i64 hi.2.2] := h1
              have h2 : a1.tmps[100]?.getD undef = .agg #[.int .i64 q.1, .int .i64 q.2.1, .int .i64 q.2.2] := h2
              go_simp
              refine (rmost_any hi.1 hi.2.1 hi.2.2 q.1 q.2.1 q.2.2 w1).mono ?_
              rintro e w2 ⟨rfl, b2⟩
              exact ⟨_, rfl, b2, ⟨HJ.out.1.below b2, HJ.out.2.1.below b2 HJ.out.2.1.lt, HJ.out.2.2.below b2 HJ.out.2.2.lt⟩, rfl⟩
          intro vs w11 hJ hG
          have q2 : vs 2 = .agg (v3A (boxLo lo q)) := hG (2, 98) (by simp)
          have q5 : vs 5 = .agg (v3A (boxHi hi q)) := hG (5, 101) (by simp)
          obtain ⟨hx11, hd11, _⟩ := hJ
          clear hG HX9 HD9 HE9
          refine Wait.mk ?_
          simp only [AtOp, List.foldl_cons, List.foldl_nil]
          rw [q2, q5]
          simp only [Act.put, List.setIfInBounds_toArray, List.set_cons_zero, List.set_cons_succ]
          clear q2 q5
          refine wo_storeV (.tmp 4) (.tmp 98) A lo (boxLo lo q) rfl rfl hx11.lo ?_
          have hx12 := hx11.setlo (by omega) hne (boxLo lo q)
          have hd12 := hd11.skip3 (b := A) (by omega) (boxLo lo q)
          generalize stV3 w11 A (boxLo lo q) = w12 at hx12 hd12 ⊢
          clear hx11 hd11
          refine wo_storeV (.tmp 5) (.tmp 101) B hi (boxHi hi q) rfl rfl hx12.hi ?_
          have HX13 := Lib.hid (hx12.sethi (by omega) hne (boxHi hi q))
          have HD13 := Lib.hid (hd12.skip3 (b := B) (by omega) (boxHi hi q))
          generalize stV3 w12 B (boxHi hi q) = w13 at HX13 HD13 ⊢
          clear hx12 hd12
          go_wp2_with fail
          go_roundw
          case rel => exact ⟨k + 1, boxLo lo q, boxHi hi q, by omega, by go_num, by rw [take_snoc HDD.out, List.foldl_append, HFO.out]; show rextS i r (lo, hi) (d1, d2) = _; unfold rextS; rw [if_pos HIN.out, HQ.out], HX13.out, HD13.out⟩
          case measure => simp [intOf] <;> omega
      · obtain rfl : k = 4 := by omega
        have hfin := HFIN.out
        rw [show dirL.take 4 = dirL from rfl] at HFO
        rw [HFO.out] at hfin
        obtain ⟨rfl, rfl⟩ : RL = lo ∧ RH = hi := by injection hfin with e1 e2; exact ⟨e1.symm, e2.symm⟩
        clear hk3
        have y0 := HX.out.z1.frozen 0
        have y1 := HX.out.z1.frozen 1
        have y2 := HX.out.z1.frozen 2
        have x0 := HX.out.z2.frozen 0
        have x1 := HX.out.z2.frozen 1
        have x2 := HX.out.z2.frozen 2
        have v0 : wr.cell? ⟨w.heap.size + 1, 0, none⟩ = some (.int .i64 0) := HX.out.z1.cell' 0 rfl
        have v1 : wr.cell? ⟨w.heap.size + 1, 1, none⟩ = some (.int .i64 0) := HX.out.z1.cell' 1 rfl
        have v2 : wr.cell? ⟨w.heap.size + 1, 2, none⟩ = some (.int .i64 0) := HX.out.z1.cell' 2 rfl
        have u0 : wr.cell? ⟨w.heap.size + 1 + 1, 0, none⟩ = some (.int .i64 0) := HX.out.z2.cell' 0 rfl
        have u1 : wr.cell? ⟨w.heap.size + 1 + 1, 1, none⟩ = some (.int .i64 0) := HX.out.z2.cell' 1 rfl
        have u2 : wr.cell? ⟨w.heap.size + 1 + 1, 2, none⟩ = some (.int .i64 0) := HX.out.z2.cell' 2 rfl
        go_upto_region 14 with fail
        have HK0 := Lib.hid (⟨HX.out.lo.drew, HX.out.hi.drew⟩ : XE2 A B RL RH wr.drew)
        have hS0 := HK0.out
        refine region_L (XE2 A B RL RH) [3] (by kernel_rfl) ?_
        refine take_L 0 (v := .agg #[.int .i64 RL.1, .int .i64 RL.2.1, .int .i64 RL.2.2]) rfl (by kernel_rfl) (by kernel_rfl) (by kernel_rfl) (by kernel_rfl) (fun _ _ _ h => h) rfl (fun W' hW' => by have q0 : W'.cell? ⟨A, 0, none⟩ = some (.int .i64 RL.1) := hW'.lo.cell' 0 rfl; have q1 : W'.cell? ⟨A, 1, none⟩ = some (.int .i64 RL.2.1) := hW'.lo.cell' 1 rfl; have q2 : W'.cell? ⟨A, 2, none⟩ = some (.int .i64 RL.2.2) := hW'.lo.cell' 2 rfl; go_simp) hS0 ?_
        refine take_L 1 (v := .agg #[.int .i64 RH.1, .int .i64 RH.2.1, .int .i64 RH.2.2]) rfl (by kernel_rfl) (by kernel_rfl) (by kernel_rfl) (by kernel_rfl) (fun _ _ _ h => h) rfl (fun W' hW' => by have q0 : W'.cell? ⟨B, 0, none⟩ = some (.int .i64 RH.1) := hW'.hi.cell' 0 rfl; have q1 : W'.cell? ⟨B, 1, none⟩ = some (.int .i64 RH.2.1) := hW'.hi.cell' 1 rfl; have q2 : W'.cell? ⟨B, 2, none⟩ = some (.int .i64 RH.2.2) := hW'.hi.cell' 2 rfl; go_simp) hS0 ?_
        clear hS0
        refine one_L 2 (by kernel_rfl) rfl rfl fun K2 hK2 => ?_
        have HK2 := Lib.hid hK2
        clear hK2
        go_simp
        refine HK2.out _ _ (fun _ _ => ⟨HX.out.lo.drew.skip3 (b := w.heap.size + 1) (by omega) RL, HX.out.hi.drew.skip3 (b := w.heap.size + 1) (by omega) RL⟩) ?_
        refine one_L 3 (by kernel_rfl) rfl rfl fun K3 hK3 => ?_
        have HK3 := Lib.hid hK3
        clear hK3
        go_simp
        refine HK3.out _ _ (fun h => absurd h (by decide)) ?_
        refine done_L (by kernel_rfl) ?_ _
        clear HK2 HK3 HK0
        go_simp
        go_wp2_with fail
        refine bodyPost_ret (results_cc rfl rfl (show Blk _ (w.heap.size + 1) 23 (v3A RL) from Blk.drew (Blk.skip (Blk.skip (Blk.skip (((HX.out.z1.put 0 _).put 1 _).put 2 _) (by simp) _) (by simp) _) (by simp) _)) Tryz.underlying23 rfl (by kernel_rfl) rfl (show Blk _ (w.heap.size + 1 + 1) 23 (v3A RH) from Blk.drew ((((Blk.skip (Blk.skip (Blk.skip HX.out.z2 (by simp) _) (by simp) _) (by simp) _).put 0 _).put 1 _).put 2 _)) Tryz.underlying23 rfl (by kernel_rfl)) rfl ?_
        exact ⟨rfl, ((((((HX.out.bel.setCell (by show w.heap.size ≤ w.heap.size + 1; omega) _).setCell (by show w.heap.size ≤ w.heap.size + 1; omega) _).setCell (by show w.heap.size ≤ w.heap.size + 1; omega) _).setCell (by show w.heap.size ≤ w.heap.size + 1 + 1; omega) _).setCell (by show w.heap.size ≤ w.heap.size + 1 + 1; omega) _).setCell (by show w.heap.size ≤ w.heap.size + 1 + 1; omega) _).drew⟩
end Go.Proofs.YtefdjdipbnnoaaaGreatDoor

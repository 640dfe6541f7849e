/-
  cnclaw17.CanonBoxes: the walk.
-/
import Derived.Test.YtefdjdipbnnoaaaDoorAwake17
import Derived.Test.YtefdjdipbnnoaaaDoorPlanB17
import Derived.Test.YtefdjdipbnnoaaaDoorTabS
import Derived.Test.YtefdjdipbnnoaaaDoorStageD17
import Derived.Test.YtefdjdipbnnoaaaDoorArgs
namespace Go.Proofs.YtefdjdipbnnoaaaDoor
open Go Go.RowKit
set_option linter.unusedVariables false
set_option linter.unusedSimpArgs false

def btw (lo hi v : Int) : Int := lo + v % (hi - lo + 1)
/-- What stands in the law's world. -/
structure ZS (w : World) (it : It) (H N : Nat) (lw hg ea eb : V3) (W : World) : Prop where
  i : ItAt W H it
  lo : Blk W w.heap.size 23 #[.int .i64 lw.1, .int .i64 lw.2.1, .int .i64 lw.2.2]
  hi : Blk W (w.heap.size + 1) 23 #[.int .i64 hg.1, .int .i64 hg.2.1, .int .i64 hg.2.2]
  a : Blk W N 23 #[.int .i64 ea.1, .int .i64 ea.2.1, .int .i64 ea.2.2]
  b : Blk W (N + 1) 23 #[.int .i64 eb.1, .int .i64 eb.2.1, .int .i64 eb.2.2]
  bel : Below w.heap.size w W
section
variable {w W W' : World} {it : It} {H N : Nat} {lw hg ea eb : V3}
theorem ZS.below (h : ZS w it H N lw hg ea eb W) (b : Below W.heap.size W W') : ZS w it H N lw hg ea eb W' := ⟨h.i.below b, h.lo.below b h.lo.lt, h.hi.below b h.hi.lt, h.a.below b h.a.lt, h.b.below b h.b.lt, h.bel.trans (b.mono h.bel.size)⟩
theorem ZS.alloc (h : ZS w it H N lw hg ea eb W) (o : Obj) : ZS w it H N lw hg ea eb (W.alloc o) := ⟨h.i.alloc _, h.lo.alloc _, h.hi.alloc _, h.a.alloc _, h.b.alloc _, h.bel.alloc h.bel.size _⟩
theorem ZS.drew (h : ZS w it H N lw hg ea eb W) : ZS w it H N lw hg ea eb W.drew := ⟨h.i.drew, h.lo.drew, h.hi.drew, h.a.drew, h.b.drew, h.bel.drew⟩
theorem ZS.far (h : ZS w it H N lw hg ea eb W) {p : Addr} (h1 : H ≠ p.block) (h2 : w.heap.size + 1 < p.block) (h3 : N + 1 < p.block) (u : Value) : ZS w it H N lw hg ea eb (W.setCell p u) :=
  ⟨h.i.far h1 u, Blk.skip h.lo (by omega) u, Blk.skip h.hi (by omega) u, Blk.skip h.a (by omega) u, Blk.skip h.b (by omega) u, h.bel.setCell (by omega) u⟩
end
def zJ (w : World) (it : It) (H N : Nat) (lw hg ea eb : V3) (B P : Nat) (p : V3) (W : World) : Prop := ZS w it H N lw hg ea eb W ∧ B ≤ W.heap.size ∧ Blk W P 23 #[.int .i64 p.1, .int .i64 p.2.1, .int .i64 p.2.2]
def zR (B : Nat) (w w' : World) : Prop := Below B w w' ∧ ∀ b, B ≤ b → Blk w b 23 #[.int .i64 0, .int .i64 0, .int .i64 0] → Blk w' b 23 #[.int .i64 0, .int .i64 0, .int .i64 0]
theorem zR_refl (B : Nat) (w : World) : zR B w w := ⟨Below.refl _ _, fun _ _ h => h⟩
def zG (B src : Nat) (x y z lo hi : Int) : Nat → Value → World → Prop
  | 0, v, _ => v = .pointer (some ⟨src, 0, none⟩)
  | 1, v, _ => v = .int .i64 x
  | 2, v, _ => v = .int .i64 (btw lo hi x)
  | 3, v, _ => v = .pointer (some ⟨src, 1, none⟩)
  | 4, v, _ => v = .int .i64 y
  | 5, v, _ => v = .int .i64 (btw lo hi y)
  | 6, v, _ => v = .pointer (some ⟨src, 2, none⟩)
  | 7, v, _ => v = .int .i64 z
  | 8, v, _ => v = .int .i64 (btw lo hi z)
  | 9, v, _ => v = .agg #[.int .i64 (btw lo hi x), .int .i64 (btw lo hi y), .int .i64 (btw lo hi z)]
  | 10, v, w => ∃ b, v = .pointer (some ⟨b, 0, none⟩) ∧ B ≤ b ∧ Blk w b 23 #[.int .i64 0, .int .i64 0, .int .i64 0]
  | _, _, _ => True
/-- A vector that is not negative. -/
def NN (w : World) (b : Nat) : Prop := ∃ x y z : Int, (0 ≤ x ∧ 0 ≤ y ∧ 0 ≤ z) ∧ Blk w b 23 #[.int .i64 x, .int .i64 y, .int .i64 z]
theorem NN.below {w w' : World} {b : Nat} (h : NN w b) (hb : Below w.heap.size w w') : NN w' b := by
  obtain ⟨x, y, z, h1, h2⟩ := h
  exact ⟨x, y, z, h1, h2.below hb h2.lt⟩
def nR (B : Nat) (w w' : World) : Prop := Below B w w' ∧ ∀ b, B ≤ b → NN w b → NN w' b
theorem nR_refl (B : Nat) (w : World) : nR B w w := ⟨Below.refl _ _, fun _ _ h => h⟩
theorem nR_below {B : Nat} {w w' : World} (hB : B ≤ w.heap.size) (h : Below w.heap.size w w') : nR B w w' := ⟨h.mono hB, fun b _ h' => h'.below h⟩
theorem nR_set {B b : Nat} {w : World} {u0 u1 u2 x y z : Int} (hB : B ≤ b) (hu : 0 ≤ u0 ∧ 0 ≤ u1 ∧ 0 ≤ u2) (h : Blk w b 23 #[.int .i64 x, .int .i64 y, .int .i64 z]) : nR B w (((w.setCell ⟨b, 0, none⟩ (.int .i64 u0)).setCell ⟨b, 1, none⟩ (.int .i64 u1)).setCell ⟨b, 2, none⟩ (.int .i64 u2)) :=
  ⟨(((Below.refl _ _).setCell (by show B ≤ b; omega) _).setCell (by show B ≤ b; omega) _).setCell (by show B ≤ b; omega) _, fun b' _ h' => by
    by_cases e : b' = b
    · subst e
      exact ⟨u0, u1, u2, hu, ((h.put 0 _).put 1 _).put 2 _⟩
    · obtain ⟨p, q, r, h1, h2⟩ := h'
      exact ⟨p, q, r, h1, Blk.skip (Blk.skip (Blk.skip h2 (by exact e) _) (by exact e) _) (by exact e) _⟩⟩
def nG (B H : Nat) (f a d b t e : V3) : Nat → Value → World → Prop
  | 0, v, _ => v = .pointer (some ⟨H, 2, none⟩)
  | 1, v, _ => v = .agg #[.int .i64 f.1, .int .i64 f.2.1, .int .i64 f.2.2]
  | 2, v, _ => v = .agg #[.int .i64 a.1, .int .i64 a.2.1, .int .i64 a.2.2]
  | 3, v, _ => v = .agg #[.int .i64 d.1, .int .i64 d.2.1, .int .i64 d.2.2]
  | 4, v, _ => v = .agg #[.int .i64 b.1, .int .i64 b.2.1, .int .i64 b.2.2]
  | 5, v, _ => v = .pointer (some ⟨H, 5, none⟩)
  | 6, v, _ => v = .agg #[.int .i64 t.1, .int .i64 t.2.1, .int .i64 t.2.2]
  | 7, v, _ => v = .agg #[.int .i64 e.1, .int .i64 e.2.1, .int .i64 e.2.2]
  | 8, v, w | 9, v, w => ∃ b, v = .pointer (some ⟨b, 0, none⟩) ∧ B ≤ b ∧ NN w b
  | _, _, _ => True
theorem its_one {W : World} {g : Nat} {t : It} (h : ItAt W g t) : ItsAt W (some ⟨g, 0, none⟩) [t] := fun i x hi => by
  cases i with
  | succ i => simp at hi
  | zero =>
    have hi := Option.some.inj hi
    subst hi
    refine ⟨g, 0, rfl, h.lt, fun j v hv => ?_⟩
    rw [show 0 + 0 * 22 + j = j by omega, Blk.cell h]
    rw [← Array.getElem?_toList]
    exact hv
theorem outL_one {i : It} {ea eb p q : V3} (hv : validI i = true) (hm : motK i.kind = true) (he : extC i = (ea, eb)) : outL p q [i] 0 = if cmpO (ea, eb) p q = true then 0 else -1 := by
  show (if outI p q i = true then ((0 : Nat) : Int) else -1) = _
  unfold outI
  rw [hv, hm, he]
  rfl
theorem cmpO_self (a b : V3) : cmpO (a, b) a b = false := by unfold cmpO; simp
/-- What stands while the differences are made. -/
def nJ (w : World) (it : It) (H N : Nat) (lw hg ea eb : V3) (B P Q : Nat) (p q : V3) (W : World) : Prop :=
  ZS w it H N lw hg ea eb W ∧ B ≤ W.heap.size ∧ Blk W P 23 #[.int .i64 p.1, .int .i64 p.2.1, .int .i64 p.2.2] ∧ Blk W Q 23 #[.int .i64 q.1, .int .i64 q.2.1, .int .i64 q.2.2]
section
variable {w W W' : World} {it : It} {H N B P Q : Nat} {lw hg ea eb p q : V3}
theorem nJ.below (h : nJ w it H N lw hg ea eb B P Q p q W) (b : Below W.heap.size W W') : nJ w it H N lw hg ea eb B P Q p q W' := ⟨h.1.below b, Nat.le_trans h.2.1 b.size, h.2.2.1.below b h.2.2.1.lt, h.2.2.2.below b h.2.2.2.lt⟩
theorem nJ.set (h : nJ w it H N lw hg ea eb B P Q p q W) {b : Nat} (hb : B ≤ b) (h1 : H < B) (h2 : w.heap.size + 1 < B) (h3 : N + 1 < B) (h4 : P < B) (h5 : Q < B) (u0 u1 u2 : Value) : nJ w it H N lw hg ea eb B P Q p q (((W.setCell ⟨b, 0, none⟩ u0).setCell ⟨b, 1, none⟩ u1).setCell ⟨b, 2, none⟩ u2) :=
  ⟨((h.1.far (by show H ≠ b; omega) (by show _ < b; omega) (by show _ < b; omega) _).far (by show H ≠ b; omega) (by show _ < b; omega) (by show _ < b; omega) _).far (by show H ≠ b; omega) (by show _ < b; omega) (by show _ < b; omega) _,
   by simpa [World.setCell] using h.2.1,
   Blk.skip (Blk.skip (Blk.skip h.2.2.1 (by show P ≠ b; omega) _) (by show P ≠ b; omega) _) (by show P ≠ b; omega) _,
   Blk.skip (Blk.skip (Blk.skip h.2.2.2 (by show Q ≠ b; omega) _) (by show Q ≠ b; omega) _) (by show Q ≠ b; omega) _⟩
end
attribute [local go_sem] itA_0 itA_1 itA_2 itA_3 itA_4 itA_5 itA_6 itA_7 itA_8 itA_9 itA_10 itA_11 itA_12 itA_13 itA_14 itA_15 itA_16 itA_17 itA_18 itA_19 itA_20 itA_21
set_option maxRecDepth 100000 in
set_option maxHeartbeats 16000000 in
theorem lboxes_walk (a0 : Option Addr) (len0 cap0 : Nat) (z0 : List Int) (l1 l2 l3 h1 h2 h3 : Int) (w : World) (hE : Env w) (w0 : IsRow .i64 w a0 len0 cap0 z0) (hn : len0 ≤ 9223372036854775807) :
    Calls Tryd.prog 8 #[.slice a0 len0 cap0, .agg #[.int .i64 l1, .int .i64 l2, .int .i64 l3], .agg #[.int .i64 h1, .int .i64 h2, .int .i64 h3]] w fun e w' => e = .returned (.bool true) ∧ Below w.heap.size w w' := by
  have HE0 := Lib.hid hE
  have hlow := hE.low
  have HR0 := Lib.hid w0
  obtain ⟨z, hz⟩ : ∃ z, (fun i => z0.getD i 0) = z := ⟨_, rfl⟩
  have HZ := Lib.hid hz
  clear hE w0 hz
  go_enter Tryd.func8, Tryd.ntmps8
  go_upto_region 1 with fail
  refine wp_told (fun W => Blk W w.heap.size 23 #[.int .i64 l1, .int .i64 l2, .int .i64 l3] ∧ Blk W (w.heap.size + 1) 23 #[.int .i64 h1, .int .i64 h2, .int .i64 h3] ∧ Below w.heap.size w W)
    ⟨(Blk.new w _ _).alloc _, blk_new1 w _ _ _, (by (repeat (first | exact Below.refl _ _ | refine Below.drew ?_ | refine Below.alloc ?_ (by first | exact Nat.le_refl _ | (simp; done) | (simp; omega)) _)))⟩ ?_
  rintro W0 ⟨hl0, hh0, bel0⟩
  have HL := Lib.hid hl0
  have HH := Lib.hid hh0
  have B0 := Lib.hid bel0
  have lt0 := hh0.lt
  have KL := Lib.hid (light_any W0 a0 len0 cap0)
  have kn := tape_new W0 a0 len0 cap0 z0 (HR0.out.below bel0) hn
  rw [HZ.out] at kn
  have KN := Lib.hid kn
  clear hl0 hh0 bel0 kn hn
  go_wp2_with fail
  refine KL.out.mono ?_
  rintro e w' ⟨rfl, rfl⟩
  by_cases h120 : len0 ≤ 120
  rotate_left
  · have d1 : decide (len0 ≤ 120) = false := decide_eq_false h120
    go_wp2_with fail
    refine (awake_true _ (HE0.out.below B0.out hlow)).mono ?_
    rintro e w9 ⟨rfl, b9⟩
    have BEL := Lib.hid ((B0.out).trans (b9.mono (B0.out).size))
    clear b9
    go_wp2_with fail
    go_ret
    exact ⟨rfl, BEL.out⟩
  have d1 : decide (len0 ≤ 120) = true := decide_eq_true h120
  go_wp2_with fail
  refine KN.out.mono ?_
  rintro e w1 ⟨rfl, hs1, b1⟩
  have sz1 := b1.size
  have B1 := Lib.hid b1
  have S1 := Lib.hid hs1
  have l1t := hs1.lt
  clear hs1 b1 KN KL
  go_wp2_with fail
  refine (svec_any w1 W0.heap.size W0.heap.size a0 len0 cap0 z 900 ⟨0, S1.out⟩ (by omega) (by omega)).mono ?_
  rintro e w2 ⟨x0, y0, u0, _, _, _, rfl, G2⟩
  have sz2 := G2.size
  have G2 := Lib.hid G2
  go_wp2_with fail
  refine (sitem_any w2 W0.heap.size W0.heap.size a0 len0 cap0 z x0 y0 u0 G2.out.src).mono ?_
  rintro e w3 ⟨it, _, rfl, G3⟩
  have G3 := Lib.hid (G2.out.trans G3)
  have sz3 := G3.out.size
  have B3 : Below W0.heap.size W0 w3 := B1.out.trans (below_of_grown G3.out.gr (by omega) (fun k e => by injection e; omega))
  have HL3 := Lib.hid (HL.out.below B3 HL.out.lt)
  have HH3 := Lib.hid (HH.out.below B3 HH.out.lt)
  have BX3 := Lib.hid (B0.out.trans (B3.mono B0.out.size))
  have lt3 : W0.heap.size ≤ w3.heap.size := B3.size
  clear G2 G3 S1 B1 HL HH B0 B3
  obtain ⟨W5, hW5⟩ : ∃ W, (w3.alloc (.cells (itA zeroI) 25)).setRow w3.heap.size (itA it) = W := ⟨_, rfl⟩
  have A5 : ItAt W5 w3.heap.size it := by rw [← hW5]; exact ItAt.row (ItAt.new w3 zeroI) _
  have L5 : Blk W5 w.heap.size 23 #[.int .i64 l1, .int .i64 l2, .int .i64 l3] := by rw [← hW5]; exact Blk.rowFar (HL3.out.alloc _) (by omega) _
  have H5 : Blk W5 (w.heap.size + 1) 23 #[.int .i64 h1, .int .i64 h2, .int .i64 h3] := by rw [← hW5]; exact Blk.rowFar (HH3.out.alloc _) (by omega) _
  have B5 : Below w.heap.size w W5 := by rw [← hW5]; exact below_row (BX3.out.alloc (by omega) _) (by omega) _
  have lt5 := A5.lt
  have A5 := Lib.hid A5
  have L5 := Lib.hid L5
  have H5 := Lib.hid H5
  have B5 := Lib.hid B5
  clear HL3 HH3 BX3
  go_upto_region 5 with (first
    | ((with_reducible refine go_allocI ?_))
    | ((with_reducible refine go_storeI (.tmp 8) (.tmp 25) w3.heap.size it zeroI (by with_unfolding_all rfl) (by with_unfolding_all rfl) (ItAt.new _ _) ?_)))
  try rw [hW5]
  clear hW5
  obtain ⟨H, hHe⟩ : ∃ H, w3.heap.size = H := ⟨_, rfl⟩
  have hHw : w.heap.size + 1 < H := by omega
  rw [hHe] at A5 lt5
  try rw [hHe]
  clear hHe
  obtain ⟨vl, hvl⟩ : ∃ b, validI it = b := ⟨_, rfl⟩
  have KV := rvalid_v it W5
  rw [hvl] at KV
  have HVL := Lib.hid hvl
  have KV := Lib.hid KV
  clear hvl
  go_wp2_with ((with_reducible refine go_loadI (.tmp 8) H it (by with_unfolding_all rfl) A5.out ?_))
  refine KV.out.mono ?_
  rintro e W6 ⟨rfl, b6⟩
  have A6 := Lib.hid (A5.out.below b6)
  have L6 := Lib.hid (L5.out.below b6 L5.out.lt)
  have H6 := Lib.hid (H5.out.below b6 H5.out.lt)
  have B6 := Lib.hid (B5.out.trans (b6.mono B5.out.size))
  clear b6 KV A5 L5 H5 B5
  cases vl
  · go_wp2_with fail
    refine (awake_true _ (HE0.out.below B6.out hlow)).mono ?_
    rintro e w9 ⟨rfl, b9⟩
    have BEL := Lib.hid ((B6.out).trans (b9.mono (B6.out).size))
    clear b9
    go_wp2_with fail
    go_ret
    exact ⟨rfl, BEL.out⟩
  have c0 := A6.out.c0
  obtain ⟨mt, hmt⟩ : ∃ b, motK it.kind = b := ⟨_, rfl⟩
  have KM := rmotionK_any it.kind W6
  rw [hmt] at KM
  have HMT := Lib.hid hmt
  have KM := Lib.hid KM
  clear hmt
  go_wp2_with fail
  refine KM.out.mono ?_
  rintro e w' ⟨rfl, rfl⟩
  clear KM c0
  cases mt
  · go_wp2_with fail
    refine (awake_true _ (HE0.out.below B6.out hlow)).mono ?_
    rintro e w9 ⟨rfl, b9⟩
    have BEL := Lib.hid ((B6.out).trans (b9.mono (B6.out).size))
    clear b9
    go_wp2_with fail
    go_ret
    exact ⟨rfl, BEL.out⟩
  obtain ⟨ea, eb, hex⟩ : ∃ ea eb, extI it = (ea, eb) := ⟨_, _, rfl⟩
  have hec : extC it = (ea, eb) := by unfold extC; rw [if_pos ⟨HMT.out, HVL.out⟩]; exact hex
  have hho := ext_holds HVL.out HMT.out
  rw [hex] at hho
  have HHO := Lib.hid hho
  have HEC := Lib.hid hec
  have KE := cext_any it W6
  rw [hec] at KE
  have KE : Calls Tryd.prog 27 #[.agg (itA it)] W6 fun e w' => e = .returned (.tuple #[.agg #[.int .i64 ea.1, .int .i64 ea.2.1, .int .i64 ea.2.2], .agg #[.int .i64 eb.1, .int .i64 eb.2.1, .int .i64 eb.2.2]]) ∧ Below W6.heap.size W6 w' := KE
  have KE := Lib.hid KE
  clear hex hec hho
  go_wp2_with ((with_reducible refine go_loadI (.tmp 8) H it (by with_unfolding_all rfl) A6.out ?_))
  refine KE.out.mono ?_
  rintro e W7 ⟨rfl, b7⟩
  have A7 := Lib.hid (A6.out.below b7)
  have L7 := Lib.hid (L6.out.below b7 L6.out.lt)
  have H7 := Lib.hid (H6.out.below b7 H6.out.lt)
  have B7 := Lib.hid (B6.out.trans (b7.mono B6.out.size))
  have lt7 := A7.out.lt
  clear b7 KE A6 L6 H6 B6
  go_upto_region 8 with fail
  obtain ⟨lw, hlw⟩ : ∃ p : V3, p = (l1, l2, l3) := ⟨_, rfl⟩
  obtain ⟨hg, hhg⟩ : ∃ p : V3, p = (h1, h2, h3) := ⟨_, rfl⟩
  refine wp_told (fun W => ZS w it H W7.heap.size (l1, l2, l3) (h1, h2, h3) ea eb W) ⟨(A7.out.alloc _).alloc _, (L7.out.alloc _).alloc _, (H7.out.alloc _).alloc _, (Blk.new W7 _ _).alloc _, blk_new1 W7 _ _ _, (B7.out.alloc B7.out.size _).alloc (by have := B7.out.size; simp; omega) _⟩ ?_
  clear A7 L7 H7 B7
  rintro W8 hz8
  obtain ⟨N, hNe⟩ : ∃ N, W7.heap.size = N := ⟨_, rfl⟩
  rw [hNe] at hz8 lt7 ⊢
  rw [← hlw, ← hhg] at hz8
  have HLW := Lib.hid hlw
  have HHG := Lib.hid hhg
  clear hNe hlw hhg
  have HZ8 := Lib.hid hz8
  have ltN : N + 1 < W8.heap.size := hz8.b.lt
  clear hz8
  go_upto_region 8 with fail
  refine wp_region_tabS 11 [(0, 41), (1, 42), (2, 43), (3, 44), (4, 45), (5, 46), (6, 47), (7, 48), (8, 49), (9, 50), (10, 11)]
    [[], [(0, 41)], [(1, 42)], [], [(3, 44)], [(4, 45)], [], [(6, 47)], [(7, 48)], [(2, 43), (5, 46), (8, 49)], [], []]
    [(4, .pointer (some ⟨w.heap.size, 0, none⟩))]
    (zJ w it H N lw hg ea eb W8.heap.size N ea) (zR W8.heap.size) (zG W8.heap.size (w.heap.size) lw.1 lw.2.1 lw.2.2 (-2000) 0)
    (by kernel_rfl) (by kernel_rfl) (by kernel_rfl) (by kernel_rfl) ?_ ?_ ?_ ?_ ?_
  · intro p hp
    simp only [List.mem_singleton] at hp
    subst hp
    rfl
  · intro i v w1 w2 hg hv
    unfold zG at hv ⊢
    split at hv
    all_goals first
      | exact hv
      | (obtain ⟨b, h1, h2, h3⟩ := hv; exact ⟨b, h1, h2, hg.2 b h2 h3⟩)
  · exact ⟨HZ8.out.drew, Nat.le_refl _, (HZ8.out.a).drew⟩
  · simp only [EachOp]
    refine ⟨fun _ => ?_, fun _ => ?_, fun _ => ?_, fun _ => ?_, fun _ => ?_, fun _ => ?_, fun _ => ?_, fun _ => ?_, fun _ => ?_, fun _ => ?_, fun _ => ?_, fun h => absurd rfl h, trivial⟩
    all_goals intro a1 w1 hJ hA hd; have HJ := Lib.hid hJ; clear hJ; have hA0 := hA _ (List.mem_singleton.2 rfl); clear hA; simp only [List.getD_cons_zero, List.getD_cons_succ, List.mem_cons, List.not_mem_nil, or_false, forall_eq_or_imp, forall_eq] at hd; simp only at hA0
    · clear hd
      have h1 : a1.tmps[4]?.getD undef = .pointer (some ⟨w.heap.size, 0, none⟩) := hA0
      clear hA0
      go_simp
      exact ⟨_, rfl, zR_refl _ _, HJ.out, rfl⟩
    · clear hA0
      have h1 : a1.tmps[41]?.getD undef = .pointer (some ⟨w.heap.size, 0, none⟩) := hd
      have q : w1.cell? ⟨w.heap.size, 0, none⟩ = some (.int .i64 lw.1) := HJ.out.1.lo.cell' 0 rfl
      clear hd
      go_simp
      exact ⟨_, rfl, zR_refl _ _, HJ.out, rfl⟩
    · clear hA0
      have h1 : a1.tmps[42]?.getD undef = .int .i64 lw.1 := hd
      clear hd
      go_simp
      refine (between_any lw.1 (-2000) 0 w1 (by decide) (by decide) (by decide)).mono ?_
      rintro e w2 ⟨rfl, rfl⟩
      exact ⟨_, rfl, zR_refl _ _, HJ.out, rfl⟩
    · clear hd
      have h1 : a1.tmps[4]?.getD undef = .pointer (some ⟨w.heap.size, 0, none⟩) := hA0
      clear hA0
      go_simp
      exact ⟨_, rfl, zR_refl _ _, HJ.out, rfl⟩
    · clear hA0
      have h1 : a1.tmps[44]?.getD undef = .pointer (some ⟨w.heap.size, 1, none⟩) := hd
      have q : w1.cell? ⟨w.heap.size, 1, none⟩ = some (.int .i64 lw.2.1) := HJ.out.1.lo.cell' 1 rfl
      clear hd
      go_simp
      exact ⟨_, rfl, zR_refl _ _, HJ.out, rfl⟩
    · clear hA0
      have h1 : a1.tmps[45]?.getD undef = .int .i64 lw.2.1 := hd
      clear hd
      go_simp
      refine (between_any lw.2.1 (-2000) 0 w1 (by decide) (by decide) (by decide)).mono ?_
      rintro e w2 ⟨rfl, rfl⟩
      exact ⟨_, rfl, zR_refl _ _, HJ.out, rfl⟩
    · clear hd
      have h1 : a1.tmps[4]?.getD undef = .pointer (some ⟨w.heap.size, 0, none⟩) := hA0
      clear hA0
      go_simp
      exact ⟨_, rfl, zR_refl _ _, HJ.out, rfl⟩
    · clear hA0
      have h1 : a1.tmps[47]?.getD undef = .pointer (some ⟨w.heap.size, 2, none⟩) := hd
      have q : w1.cell? ⟨w.heap.size, 2, none⟩ = some (.int .i64 lw.2.2) := HJ.out.1.lo.cell' 2 rfl
      clear hd
      go_simp
      exact ⟨_, rfl, zR_refl _ _, HJ.out, rfl⟩
    · clear hA0
      have h1 : a1.tmps[48]?.getD undef = .int .i64 lw.2.2 := hd
      clear hd
      go_simp
      refine (between_any lw.2.2 (-2000) 0 w1 (by decide) (by decide) (by decide)).mono ?_
      rintro e w2 ⟨rfl, rfl⟩
      exact ⟨_, rfl, zR_refl _ _, HJ.out, rfl⟩
    · clear hA0
      obtain ⟨g1, g2, g3⟩ := hd
      have g1 : a1.tmps[43]?.getD undef = .int .i64 (btw (-2000) 0 lw.1) := g1
      have g2 : a1.tmps[46]?.getD undef = .int .i64 (btw (-2000) 0 lw.2.1) := g2
      have g3 : a1.tmps[49]?.getD undef = .int .i64 (btw (-2000) 0 lw.2.2) := g3
      go_simp
      exact ⟨_, rfl, zR_refl _ _, HJ.out, rfl⟩
    · clear hA0 hd
      go_simp
      exact ⟨_, rfl, ⟨(Below.refl _ _).alloc HJ.out.2.1 _, fun b _ h => h.alloc _⟩, ⟨HJ.out.1.alloc _, Nat.le_trans HJ.out.2.1 (by simp), HJ.out.2.2.alloc _⟩, w1.heap.size, rfl, HJ.out.2.1, Blk.new _ _ _⟩
  intro vs w1 hJ hG
  have e1 := hG (9, 50) (by simp)
  obtain ⟨P, f1, f2, f3⟩ := hG (10, 11) (by simp)
  clear hG
  simp only [zG] at e1
  simp only at f1
  refine ⟨?_⟩
  simp only [AtOp, List.foldl_cons, List.foldl_nil]
  rw [e1, f1]
  simp only [Act.put, List.setIfInBounds_toArray, List.set_cons_zero, List.set_cons_succ]
  have y0 : w1.cell? ⟨P, 0, none⟩ = some (.int .i64 0) := f3.cell' 0 rfl
  have y1 : w1.cell? ⟨P, 1, none⟩ = some (.int .i64 0) := f3.cell' 1 rfl
  have y2 : w1.cell? ⟨P, 2, none⟩ = some (.int .i64 0) := f3.cell' 2 rfl
  have z0 := f3.frozen 0
  have z1 := f3.frozen 1
  have z2 := f3.frozen 2
  have HF3 := Lib.hid f3
  have HJ1 := Lib.hid hJ.1
  have HJP := Lib.hid hJ.2.2
  clear e1 f1 f3 hJ
  go_simp
  refine on_told (fun W => ∃ p : V3, ZS w it H N lw hg ea eb W ∧ Blk W P 23 #[.int .i64 p.1, .int .i64 p.2.1, .int .i64 p.2.2])
    ⟨(btw (-2000) 0 lw.1, btw (-2000) 0 lw.2.1, btw (-2000) 0 lw.2.2), ((HJ1.out.far (by show H ≠ P; omega) (by show w.heap.size + 1 < P; omega) (by show N + 1 < P; omega) _).far (by show H ≠ P; omega) (by show w.heap.size + 1 < P; omega) (by show N + 1 < P; omega) _).far (by show H ≠ P; omega) (by show w.heap.size + 1 < P; omega) (by show N + 1 < P; omega) _, ((HF3.out.put 0 _).put 1 _).put 2 _⟩ ?_
  clear y0 y1 y2 z0 z1 z2 HF3 HJ1 HJP HZ8
  rintro W9 ⟨p, hz9, hp9⟩
  have HZ9 := Lib.hid hz9
  have HP9 := Lib.hid hp9
  have ltP : P < W9.heap.size := hp9.lt
  have ltN9 : N + 1 < P := by omega
  have ltH9 : H < P := by omega
  have ltw9 : w.heap.size + 1 < P := by omega
  clear hz9 hp9 f2
  go_upto_region 9 with fail
  refine wp_region_tabS 11 [(0, 51), (1, 52), (2, 53), (3, 54), (4, 55), (5, 56), (6, 57), (7, 58), (8, 59), (9, 60), (10, 12)]
    [[], [(0, 51)], [(1, 52)], [], [(3, 54)], [(4, 55)], [], [(6, 57)], [(7, 58)], [(2, 53), (5, 56), (8, 59)], [], []]
    [(5, .pointer (some ⟨w.heap.size + 1, 0, none⟩))]
    (zJ w it H N lw hg ea eb W9.heap.size P p) (zR W9.heap.size) (zG W9.heap.size (w.heap.size + 1) hg.1 hg.2.1 hg.2.2 0 2000)
    (by kernel_rfl) (by kernel_rfl) (by kernel_rfl) (by kernel_rfl) ?_ ?_ ?_ ?_ ?_
  · intro p hp
    simp only [List.mem_singleton] at hp
    subst hp
    rfl
  · intro i v w1 w2 hg hv
    unfold zG at hv ⊢
    split at hv
    all_goals first
      | exact hv
      | (obtain ⟨b, h1, h2, h3⟩ := hv; exact ⟨b, h1, h2, hg.2 b h2 h3⟩)
  · exact ⟨HZ9.out.drew, Nat.le_refl _, (HP9.out).drew⟩
  · simp only [EachOp]
    refine ⟨fun _ => ?_, fun _ => ?_, fun _ => ?_, fun _ => ?_, fun _ => ?_, fun _ => ?_, fun _ => ?_, fun _ => ?_, fun _ => ?_, fun _ => ?_, fun _ => ?_, fun h => absurd rfl h, trivial⟩
    all_goals intro a1 w1 hJ hA hd; have HJ := Lib.hid hJ; clear hJ; have hA0 := hA _ (List.mem_singleton.2 rfl); clear hA; simp only [List.getD_cons_zero, List.getD_cons_succ, List.mem_cons, List.not_mem_nil, or_false, forall_eq_or_imp, forall_eq] at hd; simp only at hA0
    · clear hd
      have h1 : a1.tmps[5]?.getD undef = .pointer (some ⟨w.heap.size + 1, 0, none⟩) := hA0
      clear hA0
      go_simp
      exact ⟨_, rfl, zR_refl _ _, HJ.out, rfl⟩
    · clear hA0
      have h1 : a1.tmps[51]?.getD undef = .pointer (some ⟨w.heap.size + 1, 0, none⟩) := hd
      have q : w1.cell? ⟨w.heap.size + 1, 0, none⟩ = some (.int .i64 hg.1) := HJ.out.1.hi.cell' 0 rfl
      clear hd
      go_simp
      exact ⟨_, rfl, zR_refl _ _, HJ.out, rfl⟩
    · clear hA0
      have h1 : a1.tmps[52]?.getD undef = .int .i64 hg.1 := hd
      clear hd
      go_simp
      refine (between_any hg.1 0 2000 w1 (by decide) (by decide) (by decide)).mono ?_
      rintro e w2 ⟨rfl, rfl⟩
      exact ⟨_, rfl, zR_refl _ _, HJ.out, rfl⟩
    · clear hd
      have h1 : a1.tmps[5]?.getD undef = .pointer (some ⟨w.heap.size + 1, 0, none⟩) := hA0
      clear hA0
      go_simp
      exact ⟨_, rfl, zR_refl _ _, HJ.out, rfl⟩
    · clear hA0
      have h1 : a1.tmps[54]?.getD undef = .pointer (some ⟨w.heap.size + 1, 1, none⟩) := hd
      have q : w1.cell? ⟨w.heap.size + 1, 1, none⟩ = some (.int .i64 hg.2.1) := HJ.out.1.hi.cell' 1 rfl
      clear hd
      go_simp
      exact ⟨_, rfl, zR_refl _ _, HJ.out, rfl⟩
    · clear hA0
      have h1 : a1.tmps[55]?.getD undef = .int .i64 hg.2.1 := hd
      clear hd
      go_simp
      refine (between_any hg.2.1 0 2000 w1 (by decide) (by decide) (by decide)).mono ?_
      rintro e w2 ⟨rfl, rfl⟩
      exact ⟨_, rfl, zR_refl _ _, HJ.out, rfl⟩
    · clear hd
      have h1 : a1.tmps[5]?.getD undef = .pointer (some ⟨w.heap.size + 1, 0, none⟩) := hA0
      clear hA0
      go_simp
      exact ⟨_, rfl, zR_refl _ _, HJ.out, rfl⟩
    · clear hA0
      have h1 : a1.tmps[57]?.getD undef = .pointer (some ⟨w.heap.size + 1, 2, none⟩) := hd
      have q : w1.cell? ⟨w.heap.size + 1, 2, none⟩ = some (.int .i64 hg.2.2) := HJ.out.1.hi.cell' 2 rfl
      clear hd
      go_simp
      exact ⟨_, rfl, zR_refl _ _, HJ.out, rfl⟩
    · clear hA0
      have h1 : a1.tmps[58]?.getD undef = .int .i64 hg.2.2 := hd
      clear hd
      go_simp
      refine (between_any hg.2.2 0 2000 w1 (by decide) (by decide) (by decide)).mono ?_
      rintro e w2 ⟨rfl, rfl⟩
      exact ⟨_, rfl, zR_refl _ _, HJ.out, rfl⟩
    · clear hA0
      obtain ⟨g1, g2, g3⟩ := hd
      have g1 : a1.tmps[53]?.getD undef = .int .i64 (btw 0 2000 hg.1) := g1
      have g2 : a1.tmps[56]?.getD undef = .int .i64 (btw 0 2000 hg.2.1) := g2
      have g3 : a1.tmps[59]?.getD undef = .int .i64 (btw 0 2000 hg.2.2) := g3
      go_simp
      exact ⟨_, rfl, zR_refl _ _, HJ.out, rfl⟩
    · clear hA0 hd
      go_simp
      exact ⟨_, rfl, ⟨(Below.refl _ _).alloc HJ.out.2.1 _, fun b _ h => h.alloc _⟩, ⟨HJ.out.1.alloc _, Nat.le_trans HJ.out.2.1 (by simp), HJ.out.2.2.alloc _⟩, w1.heap.size, rfl, HJ.out.2.1, Blk.new _ _ _⟩
  intro vs w1 hJ hG
  have e1 := hG (9, 60) (by simp)
  obtain ⟨Q, f1, f2, f3⟩ := hG (10, 12) (by simp)
  clear hG
  simp only [zG] at e1
  simp only at f1
  refine ⟨?_⟩
  simp only [AtOp, List.foldl_cons, List.foldl_nil]
  rw [e1, f1]
  simp only [Act.put, List.setIfInBounds_toArray, List.set_cons_zero, List.set_cons_succ]
  have y0 : w1.cell? ⟨Q, 0, none⟩ = some (.int .i64 0) := f3.cell' 0 rfl
  have y1 : w1.cell? ⟨Q, 1, none⟩ = some (.int .i64 0) := f3.cell' 1 rfl
  have y2 : w1.cell? ⟨Q, 2, none⟩ = some (.int .i64 0) := f3.cell' 2 rfl
  have z0 := f3.frozen 0
  have z1 := f3.frozen 1
  have z2 := f3.frozen 2
  have HF3 := Lib.hid f3
  have HJ1 := Lib.hid hJ.1
  have HJP := Lib.hid hJ.2.2
  clear e1 f1 f3 hJ
  go_simp
  refine on_told (fun W => ∃ q : V3, ZS w it H N lw hg ea eb W ∧ Blk W P 23 #[.int .i64 p.1, .int .i64 p.2.1, .int .i64 p.2.2] ∧ Blk W Q 23 #[.int .i64 q.1, .int .i64 q.2.1, .int .i64 q.2.2])
    ⟨(btw 0 2000 hg.1, btw 0 2000 hg.2.1, btw 0 2000 hg.2.2), ((HJ1.out.far (by show H ≠ Q; omega) (by show w.heap.size + 1 < Q; omega) (by show N + 1 < Q; omega) _).far (by show H ≠ Q; omega) (by show w.heap.size + 1 < Q; omega) (by show N + 1 < Q; omega) _).far (by show H ≠ Q; omega) (by show w.heap.size + 1 < Q; omega) (by show N + 1 < Q; omega) _,
      Blk.skip (Blk.skip (Blk.skip HJP.out (by show P ≠ Q; omega) _) (by show P ≠ Q; omega) _) (by show P ≠ Q; omega) _, ((HF3.out.put 0 _).put 1 _).put 2 _⟩ ?_
  clear y0 y1 y2 z0 z1 z2 HF3 HJ1 HJP HZ9 HP9
  rintro WA ⟨q, hza, hpa, hqa⟩
  have HZA := Lib.hid hza
  have HPA := Lib.hid hpa
  have HQA := Lib.hid hqa
  have ltQ : Q < WA.heap.size := hqa.lt
  have ltPQ : P < Q := by omega
  clear hza hpa hqa f2
  obtain ⟨d1, d2, d3, e1, e2, e3, hSD, hSE, hND, hNE⟩ : ∃ d1 d2 d3 e1 e2 e3 : Int, (∀ W, Calls Tryd.prog 28 #[.agg #[.int .i64 it.fx, .int .i64 it.fy, .int .i64 it.fz], .agg #[.int .i64 ea.1, .int .i64 ea.2.1, .int .i64 ea.2.2]] W fun e w' => e = .returned (.agg #[.int .i64 d1, .int .i64 d2, .int .i64 d3]) ∧ Below W.heap.size W w') ∧
      (∀ W, Calls Tryd.prog 28 #[.agg #[.int .i64 eb.1, .int .i64 eb.2.1, .int .i64 eb.2.2], .agg #[.int .i64 it.tx, .int .i64 it.ty, .int .i64 it.tz]] W fun e w' => e = .returned (.agg #[.int .i64 e1, .int .i64 e2, .int .i64 e3]) ∧ Below W.heap.size W w') ∧ (0 ≤ d1 ∧ 0 ≤ d2 ∧ 0 ≤ d3) ∧ (0 ≤ e1 ∧ 0 ≤ e2 ∧ 0 ≤ e3) := by
    obtain ⟨k1, k2, k3, k4, k5, k6, ⟨k7, k8, k9⟩, ⟨k10, k11, k12⟩⟩ := HHO.out
    obtain ⟨m1, m2⟩ := valid_with HVL.out HMT.out
    obtain ⟨n1, n2, n3⟩ := withB_bv m1
    obtain ⟨n4, n5, n6⟩ := withB_bv m2
    unfold B24 at *
    have k1 : ea.1 ≤ it.fx := k1
    have k2 : ea.2.1 ≤ it.fy := k2
    have k3 : ea.2.2 ≤ it.fz := k3
    have k4 : it.tx ≤ eb.1 := k4
    have k5 : it.ty ≤ eb.2.1 := k5
    have k6 : it.tz ≤ eb.2.2 := k6
    refine ⟨_, _, _, _, _, _, fun W => rsub_any _ _ _ _ _ _ W, fun W => rsub_any _ _ _ _ _ _ W, ⟨?_, ?_, ?_⟩, ⟨?_, ?_, ?_⟩⟩
    all_goals (rw [wS_eq (by simp only at *; omega)]; simp only at *; omega)
  have HSD := Lib.hid hSD
  have HSE := Lib.hid hSE
  have HND := Lib.hid hND
  have HNE := Lib.hid hNE
  clear hSD hSE hND hNE
  have q0A : H < WA.heap.size := by omega
  have q1A : w.heap.size + 1 < WA.heap.size := by omega
  have q2A : N + 1 < WA.heap.size := by omega
  have q3A : P < WA.heap.size := by omega
  have q4A : Q < WA.heap.size := by omega
  have a1 : WA.cell? ⟨N, 0, none⟩ = some (.int .i64 ea.1) := HZA.out.a.cell' 0 rfl
  have a2 : WA.cell? ⟨N, 1, none⟩ = some (.int .i64 ea.2.1) := HZA.out.a.cell' 1 rfl
  have a3 : WA.cell? ⟨N, 2, none⟩ = some (.int .i64 ea.2.2) := HZA.out.a.cell' 2 rfl
  have b1 : WA.cell? ⟨N + 1, 0, none⟩ = some (.int .i64 eb.1) := HZA.out.b.cell' 0 rfl
  have b2 : WA.cell? ⟨N + 1, 1, none⟩ = some (.int .i64 eb.2.1) := HZA.out.b.cell' 1 rfl
  have b3 : WA.cell? ⟨N + 1, 2, none⟩ = some (.int .i64 eb.2.2) := HZA.out.b.cell' 2 rfl
  have p1 : WA.cell? ⟨P, 0, none⟩ = some (.int .i64 p.1) := HPA.out.cell' 0 rfl
  have p2 : WA.cell? ⟨P, 1, none⟩ = some (.int .i64 p.2.1) := HPA.out.cell' 1 rfl
  have p3 : WA.cell? ⟨P, 2, none⟩ = some (.int .i64 p.2.2) := HPA.out.cell' 2 rfl
  have q1 : WA.cell? ⟨Q, 0, none⟩ = some (.int .i64 q.1) := HQA.out.cell' 0 rfl
  have q2 : WA.cell? ⟨Q, 1, none⟩ = some (.int .i64 q.2.1) := HQA.out.cell' 1 rfl
  have q3 : WA.cell? ⟨Q, 2, none⟩ = some (.int .i64 q.2.2) := HQA.out.cell' 2 rfl
  cases g1 : decide (p.1 ≤ ea.1)
  · have HC := Lib.hid (show cmpO (ea, eb) p q = true by have := of_decide_eq_false g1; unfold cmpO; simp; omega)
    go_upto_region 11 with fail
    clear a1 a2 a3 b1 b2 b3 p1 p2 p3 q1 q2 q3 g1
    refine wp_region_tabS 11 [(0, 101), (1, 102), (2, 103), (3, 104), (4, 105), (5, 106), (6, 107), (7, 108), (8, 14), (9, 15)]
      [[], [(0, 101)], [], [(1, 102), (2, 103)], [], [], [(5, 106)], [(4, 105), (6, 107)], [], [], [(8, 14), (3, 104)], []]
      [(8, .pointer (some ⟨H, 0, none⟩)), (9, .pointer (some ⟨N, 0, none⟩)), (10, .pointer (some ⟨N + 1, 0, none⟩))]
      (nJ w it H N lw hg ea eb WA.heap.size P Q p q) (nR WA.heap.size) (nG WA.heap.size H (it.fx, it.fy, it.fz) ea (d1, d2, d3) eb (it.tx, it.ty, it.tz) (e1, e2, e3))
      (by kernel_rfl) (by kernel_rfl) (by kernel_rfl) (by kernel_rfl) ?_ ?_ ?_ ?_ ?_
    · intro p hp
      simp only [List.mem_cons, List.not_mem_nil, or_false] at hp
      rcases hp with rfl | rfl | rfl <;> rfl
    · intro i v w1 w2 hg hv
      unfold nG at hv ⊢
      split at hv
      all_goals first
        | exact hv
        | (obtain ⟨b, h1, h2, h3⟩ := hv; exact ⟨b, h1, h2, hg.2 b h2 h3⟩)
    · exact ⟨HZA.out.drew, Nat.le_refl _, HPA.out.drew, HQA.out.drew⟩
    · simp only [EachOp]
      refine ⟨fun _ => ?_, fun _ => ?_, fun _ => ?_, fun _ => ?_, fun _ => ?_, fun _ => ?_, fun _ => ?_, fun _ => ?_, fun _ => ?_, fun _ => ?_, fun _ => ?_, fun h => absurd rfl h, trivial⟩
      all_goals intro a1 w1 hJ hA hd; have HJ := Lib.hid hJ; clear hJ; simp only [List.getD_cons_zero, List.getD_cons_succ, List.mem_cons, List.not_mem_nil, or_false, forall_eq_or_imp, forall_eq] at hA hd; obtain ⟨k8, k9, k10⟩ := hA
      · clear hd k9 k10
        have k8 : a1.tmps[8]?.getD undef = .pointer (some ⟨H, 0, none⟩) := k8
        go_simp
        exact ⟨_, rfl, nR_refl _ _, HJ.out, rfl⟩
      · clear k8 k9 k10
        have h1 : a1.tmps[101]?.getD undef = .pointer (some ⟨H, 2, none⟩) := hd
        have x1 := HJ.out.1.i.c2
        have x2 := HJ.out.1.i.c3
        have x3 := HJ.out.1.i.c4
        clear hd
        go_simp
        exact ⟨_, rfl, nR_refl _ _, HJ.out, rfl⟩
      · clear hd k8 k10
        have k9 : a1.tmps[9]?.getD undef = .pointer (some ⟨N, 0, none⟩) := k9
        have x1 : w1.cell? ⟨N, 0, none⟩ = some (.int .i64 ea.1) := HJ.out.1.a.cell' 0 rfl
        have x2 : w1.cell? ⟨N, 1, none⟩ = some (.int .i64 ea.2.1) := HJ.out.1.a.cell' 1 rfl
        have x3 : w1.cell? ⟨N, 2, none⟩ = some (.int .i64 ea.2.2) := HJ.out.1.a.cell' 2 rfl
        go_simp
        exact ⟨_, rfl, nR_refl _ _, HJ.out, rfl⟩
      · clear k8 k9 k10
        obtain ⟨h1, h2⟩ := hd
        have h1 : a1.tmps[102]?.getD undef = .agg #[.int .i64 it.fx, .int .i64 it.fy, .int .i64 it.fz] := h1
        have h2 : a1.tmps[103]?.getD undef = .agg #[.int .i64 ea.1, .int .i64 ea.2.1, .int .i64 ea.2.2] := h2
        go_simp
        refine (HSD.out w1).mono ?_
        rintro e w2 ⟨rfl, b2⟩
        exact ⟨_, rfl, nR_below HJ.out.2.1 b2, HJ.out.below b2, rfl⟩
      · clear hd k8 k9
        have k10 : a1.tmps[10]?.getD undef = .pointer (some ⟨N + 1, 0, none⟩) := k10
        have x1 : w1.cell? ⟨N + 1, 0, none⟩ = some (.int .i64 eb.1) := HJ.out.1.b.cell' 0 rfl
        have x2 : w1.cell? ⟨N + 1, 1, none⟩ = some (.int .i64 eb.2.1) := HJ.out.1.b.cell' 1 rfl
        have x3 : w1.cell? ⟨N + 1, 2, none⟩ = some (.int .i64 eb.2.2) := HJ.out.1.b.cell' 2 rfl
        go_simp
        exact ⟨_, rfl, nR_refl _ _, HJ.out, rfl⟩
      · clear hd k9 k10
        have k8 : a1.tmps[8]?.getD undef = .pointer (some ⟨H, 0, none⟩) := k8
        go_simp
        exact ⟨_, rfl, nR_refl _ _, HJ.out, rfl⟩
      · clear k8 k9 k10
        have h1 : a1.tmps[106]?.getD undef = .pointer (some ⟨H, 5, none⟩) := hd
        have x1 := HJ.out.1.i.c5
        have x2 := HJ.out.1.i.c6
        have x3 := HJ.out.1.i.c7
        clear hd
        go_simp
        exact ⟨_, rfl, nR_refl _ _, HJ.out, rfl⟩
      · clear k8 k9 k10
        obtain ⟨h1, h2⟩ := hd
        have h1 : a1.tmps[105]?.getD undef = .agg #[.int .i64 eb.1, .int .i64 eb.2.1, .int .i64 eb.2.2] := h1
        have h2 : a1.tmps[107]?.getD undef = .agg #[.int .i64 it.tx, .int .i64 it.ty, .int .i64 it.tz] := h2
        go_simp
        refine (HSE.out w1).mono ?_
        rintro e w2 ⟨rfl, b2⟩
        exact ⟨_, rfl, nR_below HJ.out.2.1 b2, HJ.out.below b2, rfl⟩
      · clear k8 k9 k10 hd
        go_simp
        exact ⟨_, rfl, nR_below HJ.out.2.1 ((Below.refl _ _).alloc (Nat.le_refl _) _), HJ.out.below ((Below.refl _ _).alloc (Nat.le_refl _) _), w1.heap.size, rfl, HJ.out.2.1, 0, 0, 0, ⟨Int.le_refl _, Int.le_refl _, Int.le_refl _⟩, Blk.new _ _ _⟩
      · clear k8 k9 k10 hd
        go_simp
        exact ⟨_, rfl, nR_below HJ.out.2.1 ((Below.refl _ _).alloc (Nat.le_refl _) _), HJ.out.below ((Below.refl _ _).alloc (Nat.le_refl _) _), w1.heap.size, rfl, HJ.out.2.1, 0, 0, 0, ⟨Int.le_refl _, Int.le_refl _, Int.le_refl _⟩, Blk.new _ _ _⟩
      · clear k8 k9 k10
        obtain ⟨⟨b, h1, h2, x, y, z, h3, h4⟩, h5⟩ := hd
        have h1 : a1.tmps[14]?.getD undef = .pointer (some ⟨b, 0, none⟩) := h1
        have h5 : a1.tmps[104]?.getD undef = .agg #[.int .i64 d1, .int .i64 d2, .int .i64 d3] := h5
        have x1 : w1.cell? ⟨b, 0, none⟩ = some (.int .i64 x) := h4.cell' 0 rfl
        have x2 : w1.cell? ⟨b, 1, none⟩ = some (.int .i64 y) := h4.cell' 1 rfl
        have x3 : w1.cell? ⟨b, 2, none⟩ = some (.int .i64 z) := h4.cell' 2 rfl
        have y1 := h4.frozen 0
        have y2 := h4.frozen 1
        have y3 := h4.frozen 2
        have H4 := Lib.hid h4
        clear h3 h4
        go_simp
        exact ⟨nR_set h2 HND.out H4.out, HJ.out.set h2 q0A q1A q2A q3A q4A _ _ _, undef, trivial⟩
    intro vs w1 hJ hG
    obtain ⟨bd, f1, f2, f3⟩ := hG (8, 14) (by simp)
    obtain ⟨be, g1, g2, g3⟩ := hG (9, 15) (by simp)
    have k7 := hG (7, 108) (by simp)
    clear hG
    simp only [nG] at k7
    simp only at f1 g1
    refine ⟨?_⟩
    simp only [AtOp, List.foldl_cons, List.foldl_nil]
    rw [k7, f1, g1]
    simp only [Act.put, List.setIfInBounds_toArray, List.set_cons_zero, List.set_cons_succ]
    have f4 := (nR_set (u0 := e1) (u1 := e2) (u2 := e3) g2 HNE.out g3.choose_spec.choose_spec.choose_spec.2).2 bd f2 f3
    have g4 := (nR_set (u0 := e1) (u1 := e2) (u2 := e3) g2 HNE.out g3.choose_spec.choose_spec.choose_spec.2).2 be g2 g3
    obtain ⟨x, y, z, g5, g6⟩ := g3
    have x1 : w1.cell? ⟨be, 0, none⟩ = some (.int .i64 x) := g6.cell' 0 rfl
    have x2 : w1.cell? ⟨be, 1, none⟩ = some (.int .i64 y) := g6.cell' 1 rfl
    have x3 : w1.cell? ⟨be, 2, none⟩ = some (.int .i64 z) := g6.cell' 2 rfl
    have y1 := g6.frozen 0
    have y2 := g6.frozen 1
    have y3 := g6.frozen 2
    have F4 := Lib.hid f4
    have G4 := Lib.hid g4
    have HJ := Lib.hid (hJ.set g2 q0A q1A q2A q3A q4A (.int .i64 e1) (.int .i64 e2) (.int .i64 e3))
    clear k7 f1 g1 f3 f4 g4 g5 g6 hJ
    go_simp
    refine on_told (fun W => nJ w it H N lw hg ea eb WA.heap.size P Q p q W ∧ NN W bd ∧ NN W be) ⟨HJ.out, F4.out, G4.out⟩ ?_
    clear x1 x2 x3 y1 y2 y3 F4 G4 HJ
    rintro WB ⟨hjb, hnd, hne⟩
    have HJB := Lib.hid hjb
    have HNDB := Lib.hid hnd
    have HNEB := Lib.hid hne
    clear hjb hnd hne
    go_wp2_with fail
    refine (awake_true _ (HE0.out.below HJB.out.1.bel hlow)).mono ?_
    rintro e WC ⟨rfl, bC⟩
    have HJC := Lib.hid (HJB.out.below bC)
    have HNDC := Lib.hid (HNDB.out.below bC)
    have HNEC := Lib.hid (HNEB.out.below bC)
    have AC := Lib.hid HJC.out.1.i
    clear bC HJB HNDB HNEB
    have lP := HJC.out.2.2.1.lt
    have lQ := HJC.out.2.2.2.lt
    have p1 : WC.cell? ⟨P, 0, none⟩ = some (.int .i64 p.1) := HJC.out.2.2.1.cell' 0 rfl
    have p2 : WC.cell? ⟨P, 1, none⟩ = some (.int .i64 p.2.1) := HJC.out.2.2.1.cell' 1 rfl
    have p3 : WC.cell? ⟨P, 2, none⟩ = some (.int .i64 p.2.2) := HJC.out.2.2.1.cell' 2 rfl
    have q1 : WC.cell? ⟨Q, 0, none⟩ = some (.int .i64 q.1) := HJC.out.2.2.2.cell' 0 rfl
    have q2 : WC.cell? ⟨Q, 1, none⟩ = some (.int .i64 q.2.1) := HJC.out.2.2.2.cell' 1 rfl
    have q3 : WC.cell? ⟨Q, 2, none⟩ = some (.int .i64 q.2.2) := HJC.out.2.2.2.cell' 2 rfl
    have ko := cout_any (some ⟨WC.heap.size, 0, none⟩) 1 [it] p q (WC.alloc (.cells (itA it) 25)) (its_one (ItAt.new WC it)) (by show 1 ≤ 9223372036854775807; omega)
    rw [outL_one HVL.out HMT.out HEC.out, HC.out] at ko
    have ko2 : Calls Tryd.prog 29 #[.slice (some ⟨WC.heap.size, 0, none⟩) 1 1, .agg #[.int .i64 p.1, .int .i64 p.2.1, .int .i64 p.2.2], .agg #[.int .i64 q.1, .int .i64 q.2.1, .int .i64 q.2.2]] (WC.alloc (.cells (itA it) 25)) fun e w' => e = .returned (.int .i64 (0)) ∧ Below (WC.alloc (.cells (itA it) 25)).heap.size (WC.alloc (.cells (itA it) 25)) w' := ko
    have KO := Lib.hid ko2
    clear ko ko2
    go_wp2_with (first
      | ((with_reducible refine gd_item 25 (.tmp 8) H it (by with_unfolding_all rfl) rfl AC.out Tryd.underlying25 (by with_unfolding_all rfl) (by with_unfolding_all kernel_rfl) ?_))
      | ((with_reducible refine gd_it1 (.tmp 111) it rfl (by with_unfolding_all rfl) ?_)))
    refine KO.out.mono ?_
    rintro e WD ⟨rfl, bD⟩
    have bCD : Below WC.heap.size WC WD := ((Below.refl _ WC).alloc (Nat.le_refl _) _).trans (bD.mono (by simp))
    have HJD := Lib.hid (HJC.out.below bCD)
    have HNDD := Lib.hid (HNDC.out.below bCD)
    have HNED := Lib.hid (HNEC.out.below bCD)
    have AD := Lib.hid HJD.out.1.i
    clear AC bD bCD HJC HNDC HNEC p1 p2 p3 q1 q2 q3 lP lQ KO
    have lA := HJD.out.1.a.lt
    have lB := HJD.out.1.b.lt
    have a1 : WD.cell? ⟨N, 0, none⟩ = some (.int .i64 ea.1) := HJD.out.1.a.cell' 0 rfl
    have a2 : WD.cell? ⟨N, 1, none⟩ = some (.int .i64 ea.2.1) := HJD.out.1.a.cell' 1 rfl
    have a3 : WD.cell? ⟨N, 2, none⟩ = some (.int .i64 ea.2.2) := HJD.out.1.a.cell' 2 rfl
    have b1 : WD.cell? ⟨N + 1, 0, none⟩ = some (.int .i64 eb.1) := HJD.out.1.b.cell' 0 rfl
    have b2 : WD.cell? ⟨N + 1, 1, none⟩ = some (.int .i64 eb.2.1) := HJD.out.1.b.cell' 1 rfl
    have b3 : WD.cell? ⟨N + 1, 2, none⟩ = some (.int .i64 eb.2.2) := HJD.out.1.b.cell' 2 rfl
    have ko := cout_any (some ⟨WD.heap.size, 0, none⟩) 1 [it] ea eb (WD.alloc (.cells (itA it) 25)) (its_one (ItAt.new WD it)) (by show 1 ≤ 9223372036854775807; omega)
    rw [outL_one HVL.out HMT.out HEC.out, cmpO_self] at ko
    have ko2 : Calls Tryd.prog 29 #[.slice (some ⟨WD.heap.size, 0, none⟩) 1 1, .agg #[.int .i64 ea.1, .int .i64 ea.2.1, .int .i64 ea.2.2], .agg #[.int .i64 eb.1, .int .i64 eb.2.1, .int .i64 eb.2.2]] (WD.alloc (.cells (itA it) 25)) fun e w' => e = .returned (.int .i64 (-1)) ∧ Below (WD.alloc (.cells (itA it) 25)).heap.size (WD.alloc (.cells (itA it) 25)) w' := ko
    have KO := Lib.hid ko2
    clear ko ko2
    go_wp2_with (first
      | ((with_reducible refine gd_item 25 (.tmp 8) H it (by with_unfolding_all rfl) rfl AD.out Tryd.underlying25 (by with_unfolding_all rfl) (by with_unfolding_all kernel_rfl) ?_))
      | ((with_reducible refine gd_it1 (.tmp 121) it rfl (by with_unfolding_all rfl) ?_)))
    refine KO.out.mono ?_
    rintro e WE ⟨rfl, bE⟩
    have bDE : Below WD.heap.size WD WE := ((Below.refl _ WD).alloc (Nat.le_refl _) _).trans (bE.mono (by simp))
    have BEL := Lib.hid (HJD.out.below bDE).1.bel
    obtain ⟨n1, n2, n3, ⟨m1, m2, m3⟩, hn⟩ := HNDD.out.below bDE
    obtain ⟨n4, n5, n6, ⟨m4, m5, m6⟩, hn'⟩ := HNED.out.below bDE
    have x1 : WE.cell? ⟨bd, 0, none⟩ = some (.int .i64 n1) := hn.cell' 0 rfl
    have x2 : WE.cell? ⟨bd, 1, none⟩ = some (.int .i64 n2) := hn.cell' 1 rfl
    have x3 : WE.cell? ⟨bd, 2, none⟩ = some (.int .i64 n3) := hn.cell' 2 rfl
    have y1 : WE.cell? ⟨be, 0, none⟩ = some (.int .i64 n4) := hn'.cell' 0 rfl
    have y2 : WE.cell? ⟨be, 1, none⟩ = some (.int .i64 n5) := hn'.cell' 1 rfl
    have y3 : WE.cell? ⟨be, 2, none⟩ = some (.int .i64 n6) := hn'.cell' 2 rfl
    have r1 : decide (0 ≤ n1) = true := decide_eq_true m1
    have r2 : decide (0 ≤ n2) = true := decide_eq_true m2
    have r3 : decide (0 ≤ n3) = true := decide_eq_true m3
    have r4 : decide (0 ≤ n4) = true := decide_eq_true m4
    have r5 : decide (0 ≤ n5) = true := decide_eq_true m5
    have r6 : decide (0 ≤ n6) = true := decide_eq_true m6
    clear AD bE bDE HJD HNDD HNED a1 a2 a3 b1 b2 b3 lA lB KO hn hn' m1 m2 m3 m4 m5 m6
    go_wp2_with fail
    go_ret
    exact ⟨rfl, BEL.out⟩
  cases g2 : decide (p.2.1 ≤ ea.2.1)
  · have HC := Lib.hid (show cmpO (ea, eb) p q = true by have := of_decide_eq_false g2; unfold cmpO; simp; omega)
    go_upto_region 11 with fail
    clear a1 a2 a3 b1 b2 b3 p1 p2 p3 q1 q2 q3 g1 g2
    refine wp_region_tabS 11 [(0, 101), (1, 102), (2, 103), (3, 104), (4, 105), (5, 106), (6, 107), (7, 108), (8, 14), (9, 15)]
      [[], [(0, 101)], [], [(1, 102), (2, 103)], [], [], [(5, 106)], [(4, 105), (6, 107)], [], [], [(8, 14), (3, 104)], []]
      [(8, .pointer (some ⟨H, 0, none⟩)), (9, .pointer (some ⟨N, 0, none⟩)), (10, .pointer (some ⟨N + 1, 0, none⟩))]
      (nJ w it H N lw hg ea eb WA.heap.size P Q p q) (nR WA.heap.size) (nG WA.heap.size H (it.fx, it.fy, it.fz) ea (d1, d2, d3) eb (it.tx, it.ty, it.tz) (e1, e2, e3))
      (by kernel_rfl) (by kernel_rfl) (by kernel_rfl) (by kernel_rfl) ?_ ?_ ?_ ?_ ?_
    · intro p hp
      simp only [List.mem_cons, List.not_mem_nil, or_false] at hp
      rcases hp with rfl | rfl | rfl <;> rfl
    · intro i v w1 w2 hg hv
      unfold nG at hv ⊢
      split at hv
      all_goals first
        | exact hv
        | (obtain ⟨b, h1, h2, h3⟩ := hv; exact ⟨b, h1, h2, hg.2 b h2 h3⟩)
    · exact ⟨HZA.out.drew, Nat.le_refl _, HPA.out.drew, HQA.out.drew⟩
    · simp only [EachOp]
      refine ⟨fun _ => ?_, fun _ => ?_, fun _ => ?_, fun _ => ?_, fun _ => ?_, fun _ => ?_, fun _ => ?_, fun _ => ?_, fun _ => ?_, fun _ => ?_, fun _ => ?_, fun h => absurd rfl h, trivial⟩
      all_goals intro a1 w1 hJ hA hd; have HJ := Lib.hid hJ; clear hJ; simp only [List.getD_cons_zero, List.getD_cons_succ, List.mem_cons, List.not_mem_nil, or_false, forall_eq_or_imp, forall_eq] at hA hd; obtain ⟨k8, k9, k10⟩ := hA
      · clear hd k9 k10
        have k8 : a1.tmps[8]?.getD undef = .pointer (some ⟨H, 0, none⟩) := k8
        go_simp
        exact ⟨_, rfl, nR_refl _ _, HJ.out, rfl⟩
      · clear k8 k9 k10
        have h1 : a1.tmps[101]?.getD undef = .pointer (some ⟨H, 2, none⟩) := hd
        have x1 := HJ.out.1.i.c2
        have x2 := HJ.out.1.i.c3
        have x3 := HJ.out.1.i.c4
        clear hd
        go_simp
        exact ⟨_, rfl, nR_refl _ _, HJ.out, rfl⟩
      · clear hd k8 k10
        have k9 : a1.tmps[9]?.getD undef = .pointer (some ⟨N, 0, none⟩) := k9
        have x1 : w1.cell? ⟨N, 0, none⟩ = some (.int .i64 ea.1) := HJ.out.1.a.cell' 0 rfl
        have x2 : w1.cell? ⟨N, 1, none⟩ = some (.int .i64 ea.2.1) := HJ.out.1.a.cell' 1 rfl
        have x3 : w1.cell? ⟨N, 2, none⟩ = some (.int .i64 ea.2.2) := HJ.out.1.a.cell' 2 rfl
        go_simp
        exact ⟨_, rfl, nR_refl _ _, HJ.out, rfl⟩
      · clear k8 k9 k10
        obtain ⟨h1, h2⟩ := hd
        have h1 : a1.tmps[102]?.getD undef = .agg #[.int .i64 it.fx, .int .i64 it.fy, .int .i64 it.fz] := h1
        have h2 : a1.tmps[103]?.getD undef = .agg #[.int .i64 ea.1, .int .i64 ea.2.1, .int .i64 ea.2.2] := h2
        go_simp
        refine (HSD.out w1).mono ?_
        rintro e w2 ⟨rfl, b2⟩
        exact ⟨_, rfl, nR_below HJ.out.2.1 b2, HJ.out.below b2, rfl⟩
      · clear hd k8 k9
        have k10 : a1.tmps[10]?.getD undef = .pointer (some ⟨N + 1, 0, none⟩) := k10
        have x1 : w1.cell? ⟨N + 1, 0, none⟩ = some (.int .i64 eb.1) := HJ.out.1.b.cell' 0 rfl
        have x2 : w1.cell? ⟨N + 1, 1, none⟩ = some (.int .i64 eb.2.1) := HJ.out.1.b.cell' 1 rfl
        have x3 : w1.cell? ⟨N + 1, 2, none⟩ = some (.int .i64 eb.2.2) := HJ.out.1.b.cell' 2 rfl
        go_simp
        exact ⟨_, rfl, nR_refl _ _, HJ.out, rfl⟩
      · clear hd k9 k10
        have k8 : a1.tmps[8]?.getD undef = .pointer (some ⟨H, 0, none⟩) := k8
        go_simp
        exact ⟨_, rfl, nR_refl _ _, HJ.out, rfl⟩
      · clear k8 k9 k10
        have h1 : a1.tmps[106]?.getD undef = .pointer (some ⟨H, 5, none⟩) := hd
        have x1 := HJ.out.1.i.c5
        have x2 := HJ.out.1.i.c6
        have x3 := HJ.out.1.i.c7
        clear hd
        go_simp
        exact ⟨_, rfl, nR_refl _ _, HJ.out, rfl⟩
      · clear k8 k9 k10
        obtain ⟨h1, h2⟩ := hd
        have h1 : a1.tmps[105]?.getD undef = .agg #[.int .i64 eb.1, .int .i64 eb.2.1, .int .i64 eb.2.2] := h1
        have h2 : a1.tmps[107]?.getD undef = .agg #[.int .i64 it.tx, .int .i64 it.ty, .int .i64 it.tz] := h2
        go_simp
        refine (HSE.out w1).mono ?_
        rintro e w2 ⟨rfl, b2⟩
        exact ⟨_, rfl, nR_below HJ.out.2.1 b2, HJ.out.below b2, rfl⟩
      · clear k8 k9 k10 hd
        go_simp
        exact ⟨_, rfl, nR_below HJ.out.2.1 ((Below.refl _ _).alloc (Nat.le_refl _) _), HJ.out.below ((Below.refl _ _).alloc (Nat.le_refl _) _), w1.heap.size, rfl, HJ.out.2.1, 0, 0, 0, ⟨Int.le_refl _, Int.le_refl _, Int.le_refl _⟩, Blk.new _ _ _⟩
      · clear k8 k9 k10 hd
        go_simp
        exact ⟨_, rfl, nR_below HJ.out.2.1 ((Below.refl _ _).alloc (Nat.le_refl _) _), HJ.out.below ((Below.refl _ _).alloc (Nat.le_refl _) _), w1.heap.size, rfl, HJ.out.2.1, 0, 0, 0, ⟨Int.le_refl _, Int.le_refl _, Int.le_refl _⟩, Blk.new _ _ _⟩
      · clear k8 k9 k10
        obtain ⟨⟨b, h1, h2, x, y, z, h3, h4⟩, h5⟩ := hd
        have h1 : a1.tmps[14]?.getD undef = .pointer (some ⟨b, 0, none⟩) := h1
        have h5 : a1.tmps[104]?.getD undef = .agg #[.int .i64 d1, .int .i64 d2, .int .i64 d3] := h5
        have x1 : w1.cell? ⟨b, 0, none⟩ = some (.int .i64 x) := h4.cell' 0 rfl
        have x2 : w1.cell? ⟨b, 1, none⟩ = some (.int .i64 y) := h4.cell' 1 rfl
        have x3 : w1.cell? ⟨b, 2, none⟩ = some (.int .i64 z) := h4.cell' 2 rfl
        have y1 := h4.frozen 0
        have y2 := h4.frozen 1
        have y3 := h4.frozen 2
        have H4 := Lib.hid h4
        clear h3 h4
        go_simp
        exact ⟨nR_set h2 HND.out H4.out, HJ.out.set h2 q0A q1A q2A q3A q4A _ _ _, undef, trivial⟩
    intro vs w1 hJ hG
    obtain ⟨bd, f1, f2, f3⟩ := hG (8, 14) (by simp)
    obtain ⟨be, g1, g2, g3⟩ := hG (9, 15) (by simp)
    have k7 := hG (7, 108) (by simp)
    clear hG
    simp only [nG] at k7
    simp only at f1 g1
    refine ⟨?_⟩
    simp only [AtOp, List.foldl_cons, List.foldl_nil]
    rw [k7, f1, g1]
    simp only [Act.put, List.setIfInBounds_toArray, List.set_cons_zero, List.set_cons_succ]
    have f4 := (nR_set (u0 := e1) (u1 := e2) (u2 := e3) g2 HNE.out g3.choose_spec.choose_spec.choose_spec.2).2 bd f2 f3
    have g4 := (nR_set (u0 := e1) (u1 := e2) (u2 := e3) g2 HNE.out g3.choose_spec.choose_spec.choose_spec.2).2 be g2 g3
    obtain ⟨x, y, z, g5, g6⟩ := g3
    have x1 : w1.cell? ⟨be, 0, none⟩ = some (.int .i64 x) := g6.cell' 0 rfl
    have x2 : w1.cell? ⟨be, 1, none⟩ = some (.int .i64 y) := g6.cell' 1 rfl
    have x3 : w1.cell? ⟨be, 2, none⟩ = some (.int .i64 z) := g6.cell' 2 rfl
    have y1 := g6.frozen 0
    have y2 := g6.frozen 1
    have y3 := g6.frozen 2
    have F4 := Lib.hid f4
    have G4 := Lib.hid g4
    have HJ := Lib.hid (hJ.set g2 q0A q1A q2A q3A q4A (.int .i64 e1) (.int .i64 e2) (.int .i64 e3))
    clear k7 f1 g1 f3 f4 g4 g5 g6 hJ
    go_simp
    refine on_told (fun W => nJ w it H N lw hg ea eb WA.heap.size P Q p q W ∧ NN W bd ∧ NN W be) ⟨HJ.out, F4.out, G4.out⟩ ?_
    clear x1 x2 x3 y1 y2 y3 F4 G4 HJ
    rintro WB ⟨hjb, hnd, hne⟩
    have HJB := Lib.hid hjb
    have HNDB := Lib.hid hnd
    have HNEB := Lib.hid hne
    clear hjb hnd hne
    go_wp2_with fail
    refine (awake_true _ (HE0.out.below HJB.out.1.bel hlow)).mono ?_
    rintro e WC ⟨rfl, bC⟩
    have HJC := Lib.hid (HJB.out.below bC)
    have HNDC := Lib.hid (HNDB.out.below bC)
    have HNEC := Lib.hid (HNEB.out.below bC)
    have AC := Lib.hid HJC.out.1.i
    clear bC HJB HNDB HNEB
    have lP := HJC.out.2.2.1.lt
    have lQ := HJC.out.2.2.2.lt
    have p1 : WC.cell? ⟨P, 0, none⟩ = some (.int .i64 p.1) := HJC.out.2.2.1.cell' 0 rfl
    have p2 : WC.cell? ⟨P, 1, none⟩ = some (.int .i64 p.2.1) := HJC.out.2.2.1.cell' 1 rfl
    have p3 : WC.cell? ⟨P, 2, none⟩ = some (.int .i64 p.2.2) := HJC.out.2.2.1.cell' 2 rfl
    have q1 : WC.cell? ⟨Q, 0, none⟩ = some (.int .i64 q.1) := HJC.out.2.2.2.cell' 0 rfl
    have q2 : WC.cell? ⟨Q, 1, none⟩ = some (.int .i64 q.2.1) := HJC.out.2.2.2.cell' 1 rfl
    have q3 : WC.cell? ⟨Q, 2, none⟩ = some (.int .i64 q.2.2) := HJC.out.2.2.2.cell' 2 rfl
    have ko := cout_any (some ⟨WC.heap.size, 0, none⟩) 1 [it] p q (WC.alloc (.cells (itA it) 25)) (its_one (ItAt.new WC it)) (by show 1 ≤ 9223372036854775807; omega)
    rw [outL_one HVL.out HMT.out HEC.out, HC.out] at ko
    have ko2 : Calls Tryd.prog 29 #[.slice (some ⟨WC.heap.size, 0, none⟩) 1 1, .agg #[.int .i64 p.1, .int .i64 p.2.1, .int .i64 p.2.2], .agg #[.int .i64 q.1, .int .i64 q.2.1, .int .i64 q.2.2]] (WC.alloc (.cells (itA it) 25)) fun e w' => e = .returned (.int .i64 (0)) ∧ Below (WC.alloc (.cells (itA it) 25)).heap.size (WC.alloc (.cells (itA it) 25)) w' := ko
    have KO := Lib.hid ko2
    clear ko ko2
    go_wp2_with (first
      | ((with_reducible refine gd_item 25 (.tmp 8) H it (by with_unfolding_all rfl) rfl AC.out Tryd.underlying25 (by with_unfolding_all rfl) (by with_unfolding_all kernel_rfl) ?_))
      | ((with_reducible refine gd_it1 (.tmp 111) it rfl (by with_unfolding_all rfl) ?_)))
    refine KO.out.mono ?_
    rintro e WD ⟨rfl, bD⟩
    have bCD : Below WC.heap.size WC WD := ((Below.refl _ WC).alloc (Nat.le_refl _) _).trans (bD.mono (by simp))
    have HJD := Lib.hid (HJC.out.below bCD)
    have HNDD := Lib.hid (HNDC.out.below bCD)
    have HNED := Lib.hid (HNEC.out.below bCD)
    have AD := Lib.hid HJD.out.1.i
    clear AC bD bCD HJC HNDC HNEC p1 p2 p3 q1 q2 q3 lP lQ KO
    have lA := HJD.out.1.a.lt
    have lB := HJD.out.1.b.lt
    have a1 : WD.cell? ⟨N, 0, none⟩ = some (.int .i64 ea.1) := HJD.out.1.a.cell' 0 rfl
    have a2 : WD.cell? ⟨N, 1, none⟩ = some (.int .i64 ea.2.1) := HJD.out.1.a.cell' 1 rfl
    have a3 : WD.cell? ⟨N, 2, none⟩ = some (.int .i64 ea.2.2) := HJD.out.1.a.cell' 2 rfl
    have b1 : WD.cell? ⟨N + 1, 0, none⟩ = some (.int .i64 eb.1) := HJD.out.1.b.cell' 0 rfl
    have b2 : WD.cell? ⟨N + 1, 1, none⟩ = some (.int .i64 eb.2.1) := HJD.out.1.b.cell' 1 rfl
    have b3 : WD.cell? ⟨N + 1, 2, none⟩ = some (.int .i64 eb.2.2) := HJD.out.1.b.cell' 2 rfl
    have ko := cout_any (some ⟨WD.heap.size, 0, none⟩) 1 [it] ea eb (WD.alloc (.cells (itA it) 25)) (its_one (ItAt.new WD it)) (by show 1 ≤ 9223372036854775807; omega)
    rw [outL_one HVL.out HMT.out HEC.out, cmpO_self] at ko
    have ko2 : Calls Tryd.prog 29 #[.slice (some ⟨WD.heap.size, 0, none⟩) 1 1, .agg #[.int .i64 ea.1, .int .i64 ea.2.1, .int .i64 ea.2.2], .agg #[.int .i64 eb.1, .int .i64 eb.2.1, .int .i64 eb.2.2]] (WD.alloc (.cells (itA it) 25)) fun e w' => e = .returned (.int .i64 (-1)) ∧ Below (WD.alloc (.cells (itA it) 25)).heap.size (WD.alloc (.cells (itA it) 25)) w' := ko
    have KO := Lib.hid ko2
    clear ko ko2
    go_wp2_with (first
      | ((with_reducible refine gd_item 25 (.tmp 8) H it (by with_unfolding_all rfl) rfl AD.out Tryd.underlying25 (by with_unfolding_all rfl) (by with_unfolding_all kernel_rfl) ?_))
      | ((with_reducible refine gd_it1 (.tmp 121) it rfl (by with_unfolding_all rfl) ?_)))
    refine KO.out.mono ?_
    rintro e WE ⟨rfl, bE⟩
    have bDE : Below WD.heap.size WD WE := ((Below.refl _ WD).alloc (Nat.le_refl _) _).trans (bE.mono (by simp))
    have BEL := Lib.hid (HJD.out.below bDE).1.bel
    obtain ⟨n1, n2, n3, ⟨m1, m2, m3⟩, hn⟩ := HNDD.out.below bDE
    obtain ⟨n4, n5, n6, ⟨m4, m5, m6⟩, hn'⟩ := HNED.out.below bDE
    have x1 : WE.cell? ⟨bd, 0, none⟩ = some (.int .i64 n1) := hn.cell' 0 rfl
    have x2 : WE.cell? ⟨bd, 1, none⟩ = some (.int .i64 n2) := hn.cell' 1 rfl
    have x3 : WE.cell? ⟨bd, 2, none⟩ = some (.int .i64 n3) := hn.cell' 2 rfl
    have y1 : WE.cell? ⟨be, 0, none⟩ = some (.int .i64 n4) := hn'.cell' 0 rfl
    have y2 : WE.cell? ⟨be, 1, none⟩ = some (.int .i64 n5) := hn'.cell' 1 rfl
    have y3 : WE.cell? ⟨be, 2, none⟩ = some (.int .i64 n6) := hn'.cell' 2 rfl
    have r1 : decide (0 ≤ n1) = true := decide_eq_true m1
    have r2 : decide (0 ≤ n2) = true := decide_eq_true m2
    have r3 : decide (0 ≤ n3) = true := decide_eq_true m3
    have r4 : decide (0 ≤ n4) = true := decide_eq_true m4
    have r5 : decide (0 ≤ n5) = true := decide_eq_true m5
    have r6 : decide (0 ≤ n6) = true := decide_eq_true m6
    clear AD bE bDE HJD HNDD HNED a1 a2 a3 b1 b2 b3 lA lB KO hn hn' m1 m2 m3 m4 m5 m6
    go_wp2_with fail
    go_ret
    exact ⟨rfl, BEL.out⟩
  cases g3 : decide (p.2.2 ≤ ea.2.2)
  · have HC := Lib.hid (show cmpO (ea, eb) p q = true by have := of_decide_eq_false g3; unfold cmpO; simp; omega)
    go_upto_region 11 with fail
    clear a1 a2 a3 b1 b2 b3 p1 p2 p3 q1 q2 q3 g1 g2 g3
    refine wp_region_tabS 11 [(0, 101), (1, 102), (2, 103), (3, 104), (4, 105), (5, 106), (6, 107), (7, 108), (8, 14), (9, 15)]
      [[], [(0, 101)], [], [(1, 102), (2, 103)], [], [], [(5, 106)], [(4, 105), (6, 107)], [], [], [(8, 14), (3, 104)], []]
      [(8, .pointer (some ⟨H, 0, none⟩)), (9, .pointer (some ⟨N, 0, none⟩)), (10, .pointer (some ⟨N + 1, 0, none⟩))]
      (nJ w it H N lw hg ea eb WA.heap.size P Q p q) (nR WA.heap.size) (nG WA.heap.size H (it.fx, it.fy, it.fz) ea (d1, d2, d3) eb (it.tx, it.ty, it.tz) (e1, e2, e3))
      (by kernel_rfl) (by kernel_rfl) (by kernel_rfl) (by kernel_rfl) ?_ ?_ ?_ ?_ ?_
    · intro p hp
      simp only [List.mem_cons, List.not_mem_nil, or_false] at hp
      rcases hp with rfl | rfl | rfl <;> rfl
    · intro i v w1 w2 hg hv
      unfold nG at hv ⊢
      split at hv
      all_goals first
        | exact hv
        | (obtain ⟨b, h1, h2, h3⟩ := hv; exact ⟨b, h1, h2, hg.2 b h2 h3⟩)
    · exact ⟨HZA.out.drew, Nat.le_refl _, HPA.out.drew, HQA.out.drew⟩
    · simp only [EachOp]
      refine ⟨fun _ => ?_, fun _ => ?_, fun _ => ?_, fun _ => ?_, fun _ => ?_, fun _ => ?_, fun _ => ?_, fun _ => ?_, fun _ => ?_, fun _ => ?_, fun _ => ?_, fun h => absurd rfl h, trivial⟩
      all_goals intro a1 w1 hJ hA hd; have HJ := Lib.hid hJ; clear hJ; simp only [List.getD_cons_zero, List.getD_cons_succ, List.mem_cons, List.not_mem_nil, or_false, forall_eq_or_imp, forall_eq] at hA hd; obtain ⟨k8, k9, k10⟩ := hA
      · clear hd k9 k10
        have k8 : a1.tmps[8]?.getD undef = .pointer (some ⟨H, 0, none⟩) := k8
        go_simp
        exact ⟨_, rfl, nR_refl _ _, HJ.out, rfl⟩
      · clear k8 k9 k10
        have h1 : a1.tmps[101]?.getD undef = .pointer (some ⟨H, 2, none⟩) := hd
        have x1 := HJ.out.1.i.c2
        have x2 := HJ.out.1.i.c3
        have x3 := HJ.out.1.i.c4
        clear hd
        go_simp
        exact ⟨_, rfl, nR_refl _ _, HJ.out, rfl⟩
      · clear hd k8 k10
        have k9 : a1.tmps[9]?.getD undef = .pointer (some ⟨N, 0, none⟩) := k9
        have x1 : w1.cell? ⟨N, 0, none⟩ = some (.int .i64 ea.1) := HJ.out.1.a.cell' 0 rfl
        have x2 : w1.cell? ⟨N, 1, none⟩ = some (.int .i64 ea.2.1) := HJ.out.1.a.cell' 1 rfl
        have x3 : w1.cell? ⟨N, 2, none⟩ = some (.int .i64 ea.2.2) := HJ.out.1.a.cell' 2 rfl
        go_simp
        exact ⟨_, rfl, nR_refl _ _, HJ.out, rfl⟩
      · clear k8 k9 k10
        obtain ⟨h1, h2⟩ := hd
        have h1 : a1.tmps[102]?.getD undef = .agg #[.int .i64 it.fx, .int .i64 it.fy, .int .i64 it.fz] := h1
        have h2 : a1.tmps[103]?.getD undef = .agg #[.int .i64 ea.1, .int .i64 ea.2.1, .int .i64 ea.2.2] := h2
        go_simp
        refine (HSD.out w1).mono ?_
        rintro e w2 ⟨rfl, b2⟩
        exact ⟨_, rfl, nR_below HJ.out.2.1 b2, HJ.out.below b2, rfl⟩
      · clear hd k8 k9
        have k10 : a1.tmps[10]?.getD undef = .pointer (some ⟨N + 1, 0, none⟩) := k10
        have x1 : w1.cell? ⟨N + 1, 0, none⟩ = some (.int .i64 eb.1) := HJ.out.1.b.cell' 0 rfl
        have x2 : w1.cell? ⟨N + 1, 1, none⟩ = some (.int .i64 eb.2.1) := HJ.out.1.b.cell' 1 rfl
        have x3 : w1.cell? ⟨N + 1, 2, none⟩ = some (.int .i64 eb.2.2) := HJ.out.1.b.cell' 2 rfl
        go_simp
        exact ⟨_, rfl, nR_refl _ _, HJ.out, rfl⟩
      · clear hd k9 k10
        have k8 : a1.tmps[8]?.getD undef = .pointer (some ⟨H, 0, none⟩) := k8
        go_simp
        exact ⟨_, rfl, nR_refl _ _, HJ.out, rfl⟩
      · clear k8 k9 k10
        have h1 : a1.tmps[106]?.getD undef = .pointer (some ⟨H, 5, none⟩) := hd
        have x1 := HJ.out.1.i.c5
        have x2 := HJ.out.1.i.c6
        have x3 := HJ.out.1.i.c7
        clear hd
        go_simp
        exact ⟨_, rfl, nR_refl _ _, HJ.out, rfl⟩
      · clear k8 k9 k10
        obtain ⟨h1, h2⟩ := hd
        have h1 : a1.tmps[105]?.getD undef = .agg #[.int .i64 eb.1, .int .i64 eb.2.1, .int .i64 eb.2.2] := h1
        have h2 : a1.tmps[107]?.getD undef = .agg #[.int .i64 it.tx, .int .i64 it.ty, .int .i64 it.tz] := h2
        go_simp
        refine (HSE.out w1).mono ?_
        rintro e w2 ⟨rfl, b2⟩
        exact ⟨_, rfl, nR_below HJ.out.2.1 b2, HJ.out.below b2, rfl⟩
      · clear k8 k9 k10 hd
        go_simp
        exact ⟨_, rfl, nR_below HJ.out.2.1 ((Below.refl _ _).alloc (Nat.le_refl _) _), HJ.out.below ((Below.refl _ _).alloc (Nat.le_refl _) _), w1.heap.size, rfl, HJ.out.2.1, 0, 0, 0, ⟨Int.le_refl _, Int.le_refl _, Int.le_refl _⟩, Blk.new _ _ _⟩
      · clear k8 k9 k10 hd
        go_simp
        exact ⟨_, rfl, nR_below HJ.out.2.1 ((Below.refl _ _).alloc (Nat.le_refl _) _), HJ.out.below ((Below.refl _ _).alloc (Nat.le_refl _) _), w1.heap.size, rfl, HJ.out.2.1, 0, 0, 0, ⟨Int.le_refl _, Int.le_refl _, Int.le_refl _⟩, Blk.new _ _ _⟩
      · clear k8 k9 k10
        obtain ⟨⟨b, h1, h2, x, y, z, h3, h4⟩, h5⟩ := hd
        have h1 : a1.tmps[14]?.getD undef = .pointer (some ⟨b, 0, none⟩) := h1
        have h5 : a1.tmps[104]?.getD undef = .agg #[.int .i64 d1, .int .i64 d2, .int .i64 d3] := h5
        have x1 : w1.cell? ⟨b, 0, none⟩ = some (.int .i64 x) := h4.cell' 0 rfl
        have x2 : w1.cell? ⟨b, 1, none⟩ = some (.int .i64 y) := h4.cell' 1 rfl
        have x3 : w1.cell? ⟨b, 2, none⟩ = some (.int .i64 z) := h4.cell' 2 rfl
        have y1 := h4.frozen 0
        have y2 := h4.frozen 1
        have y3 := h4.frozen 2
        have H4 := Lib.hid h4
        clear h3 h4
        go_simp
        exact ⟨nR_set h2 HND.out H4.out, HJ.out.set h2 q0A q1A q2A q3A q4A _ _ _, undef, trivial⟩
    intro vs w1 hJ hG
    obtain ⟨bd, f1, f2, f3⟩ := hG (8, 14) (by simp)
    obtain ⟨be, g1, g2, g3⟩ := hG (9, 15) (by simp)
    have k7 := hG (7, 108) (by simp)
    clear hG
    simp only [nG] at k7
    simp only at f1 g1
    refine ⟨?_⟩
    simp only [AtOp, List.foldl_cons, List.foldl_nil]
    rw [k7, f1, g1]
    simp only [Act.put, List.setIfInBounds_toArray, List.set_cons_zero, List.set_cons_succ]
    have f4 := (nR_set (u0 := e1) (u1 := e2) (u2 := e3) g2 HNE.out g3.choose_spec.choose_spec.choose_spec.2).2 bd f2 f3
    have g4 := (nR_set (u0 := e1) (u1 := e2) (u2 := e3) g2 HNE.out g3.choose_spec.choose_spec.choose_spec.2).2 be g2 g3
    obtain ⟨x, y, z, g5, g6⟩ := g3
    have x1 : w1.cell? ⟨be, 0, none⟩ = some (.int .i64 x) := g6.cell' 0 rfl
    have x2 : w1.cell? ⟨be, 1, none⟩ = some (.int .i64 y) := g6.cell' 1 rfl
    have x3 : w1.cell? ⟨be, 2, none⟩ = some (.int .i64 z) := g6.cell' 2 rfl
    have y1 := g6.frozen 0
    have y2 := g6.frozen 1
    have y3 := g6.frozen 2
    have F4 := Lib.hid f4
    have G4 := Lib.hid g4
    have HJ := Lib.hid (hJ.set g2 q0A q1A q2A q3A q4A (.int .i64 e1) (.int .i64 e2) (.int .i64 e3))
    clear k7 f1 g1 f3 f4 g4 g5 g6 hJ
    go_simp
    refine on_told (fun W => nJ w it H N lw hg ea eb WA.heap.size P Q p q W ∧ NN W bd ∧ NN W be) ⟨HJ.out, F4.out, G4.out⟩ ?_
    clear x1 x2 x3 y1 y2 y3 F4 G4 HJ
    rintro WB ⟨hjb, hnd, hne⟩
    have HJB := Lib.hid hjb
    have HNDB := Lib.hid hnd
    have HNEB := Lib.hid hne
    clear hjb hnd hne
    go_wp2_with fail
    refine (awake_true _ (HE0.out.below HJB.out.1.bel hlow)).mono ?_
    rintro e WC ⟨rfl, bC⟩
    have HJC := Lib.hid (HJB.out.below bC)
    have HNDC := Lib.hid (HNDB.out.below bC)
    have HNEC := Lib.hid (HNEB.out.below bC)
    have AC := Lib.hid HJC.out.1.i
    clear bC HJB HNDB HNEB
    have lP := HJC.out.2.2.1.lt
    have lQ := HJC.out.2.2.2.lt
    have p1 : WC.cell? ⟨P, 0, none⟩ = some (.int .i64 p.1) := HJC.out.2.2.1.cell' 0 rfl
    have p2 : WC.cell? ⟨P, 1, none⟩ = some (.int .i64 p.2.1) := HJC.out.2.2.1.cell' 1 rfl
    have p3 : WC.cell? ⟨P, 2, none⟩ = some (.int .i64 p.2.2) := HJC.out.2.2.1.cell' 2 rfl
    have q1 : WC.cell? ⟨Q, 0, none⟩ = some (.int .i64 q.1) := HJC.out.2.2.2.cell' 0 rfl
    have q2 : WC.cell? ⟨Q, 1, none⟩ = some (.int .i64 q.2.1) := HJC.out.2.2.2.cell' 1 rfl
    have q3 : WC.cell? ⟨Q, 2, none⟩ = some (.int .i64 q.2.2) := HJC.out.2.2.2.cell' 2 rfl
    have ko := cout_any (some ⟨WC.heap.size, 0, none⟩) 1 [it] p q (WC.alloc (.cells (itA it) 25)) (its_one (ItAt.new WC it)) (by show 1 ≤ 9223372036854775807; omega)
    rw [outL_one HVL.out HMT.out HEC.out, HC.out] at ko
    have ko2 : Calls Tryd.prog 29 #[.slice (some ⟨WC.heap.size, 0, none⟩) 1 1, .agg #[.int .i64 p.1, .int .i64 p.2.1, .int .i64 p.2.2], .agg #[.int .i64 q.1, .int .i64 q.2.1, .int .i64 q.2.2]] (WC.alloc (.cells (itA it) 25)) fun e w' => e = .returned (.int .i64 (0)) ∧ Below (WC.alloc (.cells (itA it) 25)).heap.size (WC.alloc (.cells (itA it) 25)) w' := ko
    have KO := Lib.hid ko2
    clear ko ko2
    go_wp2_with (first
      | ((with_reducible refine gd_item 25 (.tmp 8) H it (by with_unfolding_all rfl) rfl AC.out Tryd.underlying25 (by with_unfolding_all rfl) (by with_unfolding_all kernel_rfl) ?_))
      | ((with_reducible refine gd_it1 (.tmp 111) it rfl (by with_unfolding_all rfl) ?_)))
    refine KO.out.mono ?_
    rintro e WD ⟨rfl, bD⟩
    have bCD : Below WC.heap.size WC WD := ((Below.refl _ WC).alloc (Nat.le_refl _) _).trans (bD.mono (by simp))
    have HJD := Lib.hid (HJC.out.below bCD)
    have HNDD := Lib.hid (HNDC.out.below bCD)
    have HNED := Lib.hid (HNEC.out.below bCD)
    have AD := Lib.hid HJD.out.1.i
    clear AC bD bCD HJC HNDC HNEC p1 p2 p3 q1 q2 q3 lP lQ KO
    have lA := HJD.out.1.a.lt
    have lB := HJD.out.1.b.lt
    have a1 : WD.cell? ⟨N, 0, none⟩ = some (.int .i64 ea.1) := HJD.out.1.a.cell' 0 rfl
    have a2 : WD.cell? ⟨N, 1, none⟩ = some (.int .i64 ea.2.1) := HJD.out.1.a.cell' 1 rfl
    have a3 : WD.cell? ⟨N, 2, none⟩ = some (.int .i64 ea.2.2) := HJD.out.1.a.cell' 2 rfl
    have b1 : WD.cell? ⟨N + 1, 0, none⟩ = some (.int .i64 eb.1) := HJD.out.1.b.cell' 0 rfl
    have b2 : WD.cell? ⟨N + 1, 1, none⟩ = some (.int .i64 eb.2.1) := HJD.out.1.b.cell' 1 rfl
    have b3 : WD.cell? ⟨N + 1, 2, none⟩ = some (.int .i64 eb.2.2) := HJD.out.1.b.cell' 2 rfl
    have ko := cout_any (some ⟨WD.heap.size, 0, none⟩) 1 [it] ea eb (WD.alloc (.cells (itA it) 25)) (its_one (ItAt.new WD it)) (by show 1 ≤ 9223372036854775807; omega)
    rw [outL_one HVL.out HMT.out HEC.out, cmpO_self] at ko
    have ko2 : Calls Tryd.prog 29 #[.slice (some ⟨WD.heap.size, 0, none⟩) 1 1, .agg #[.int .i64 ea.1, .int .i64 ea.2.1, .int .i64 ea.2.2], .agg #[.int .i64 eb.1, .int .i64 eb.2.1, .int .i64 eb.2.2]] (WD.alloc (.cells (itA it) 25)) fun e w' => e = .returned (.int .i64 (-1)) ∧ Below (WD.alloc (.cells (itA it) 25)).heap.size (WD.alloc (.cells (itA it) 25)) w' := ko
    have KO := Lib.hid ko2
    clear ko ko2
    go_wp2_with (first
      | ((with_reducible refine gd_item 25 (.tmp 8) H it (by with_unfolding_all rfl) rfl AD.out Tryd.underlying25 (by with_unfolding_all rfl) (by with_unfolding_all kernel_rfl) ?_))
      | ((with_reducible refine gd_it1 (.tmp 121) it rfl (by with_unfolding_all rfl) ?_)))
    refine KO.out.mono ?_
    rintro e WE ⟨rfl, bE⟩
    have bDE : Below WD.heap.size WD WE := ((Below.refl _ WD).alloc (Nat.le_refl _) _).trans (bE.mono (by simp))
    have BEL := Lib.hid (HJD.out.below bDE).1.bel
    obtain ⟨n1, n2, n3, ⟨m1, m2, m3⟩, hn⟩ := HNDD.out.below bDE
    obtain ⟨n4, n5, n6, ⟨m4, m5, m6⟩, hn'⟩ := HNED.out.below bDE
    have x1 : WE.cell? ⟨bd, 0, none⟩ = some (.int .i64 n1) := hn.cell' 0 rfl
    have x2 : WE.cell? ⟨bd, 1, none⟩ = some (.int .i64 n2) := hn.cell' 1 rfl
    have x3 : WE.cell? ⟨bd, 2, none⟩ = some (.int .i64 n3) := hn.cell' 2 rfl
    have y1 : WE.cell? ⟨be, 0, none⟩ = some (.int .i64 n4) := hn'.cell' 0 rfl
    have y2 : WE.cell? ⟨be, 1, none⟩ = some (.int .i64 n5) := hn'.cell' 1 rfl
    have y3 : WE.cell? ⟨be, 2, none⟩ = some (.int .i64 n6) := hn'.cell' 2 rfl
    have r1 : decide (0 ≤ n1) = true := decide_eq_true m1
    have r2 : decide (0 ≤ n2) = true := decide_eq_true m2
    have r3 : decide (0 ≤ n3) = true := decide_eq_true m3
    have r4 : decide (0 ≤ n4) = true := decide_eq_true m4
    have r5 : decide (0 ≤ n5) = true := decide_eq_true m5
    have r6 : decide (0 ≤ n6) = true := decide_eq_true m6
    clear AD bE bDE HJD HNDD HNED a1 a2 a3 b1 b2 b3 lA lB KO hn hn' m1 m2 m3 m4 m5 m6
    go_wp2_with fail
    go_ret
    exact ⟨rfl, BEL.out⟩
  cases g4 : decide (eb.1 ≤ q.1)
  · have HC := Lib.hid (show cmpO (ea, eb) p q = true by have := of_decide_eq_false g4; unfold cmpO; simp; omega)
    go_upto_region 11 with fail
    clear a1 a2 a3 b1 b2 b3 p1 p2 p3 q1 q2 q3 g1 g2 g3 g4
    refine wp_region_tabS 11 [(0, 101), (1, 102), (2, 103), (3, 104), (4, 105), (5, 106), (6, 107), (7, 108), (8, 14), (9, 15)]
      [[], [(0, 101)], [], [(1, 102), (2, 103)], [], [], [(5, 106)], [(4, 105), (6, 107)], [], [], [(8, 14), (3, 104)], []]
      [(8, .pointer (some ⟨H, 0, none⟩)), (9, .pointer (some ⟨N, 0, none⟩)), (10, .pointer (some ⟨N + 1, 0, none⟩))]
      (nJ w it H N lw hg ea eb WA.heap.size P Q p q) (nR WA.heap.size) (nG WA.heap.size H (it.fx, it.fy, it.fz) ea (d1, d2, d3) eb (it.tx, it.ty, it.tz) (e1, e2, e3))
      (by kernel_rfl) (by kernel_rfl) (by kernel_rfl) (by kernel_rfl) ?_ ?_ ?_ ?_ ?_
    · intro p hp
      simp only [List.mem_cons, List.not_mem_nil, or_false] at hp
      rcases hp with rfl | rfl | rfl <;> rfl
    · intro i v w1 w2 hg hv
      unfold nG at hv ⊢
      split at hv
      all_goals first
        | exact hv
        | (obtain ⟨b, h1, h2, h3⟩ := hv; exact ⟨b, h1, h2, hg.2 b h2 h3⟩)
    · exact ⟨HZA.out.drew, Nat.le_refl _, HPA.out.drew, HQA.out.drew⟩
    · simp only [EachOp]
      refine ⟨fun _ => ?_, fun _ => ?_, fun _ => ?_, fun _ => ?_, fun _ => ?_, fun _ => ?_, fun _ => ?_, fun _ => ?_, fun _ => ?_, fun _ => ?_, fun _ => ?_, fun h => absurd rfl h, trivial⟩
      all_goals intro a1 w1 hJ hA hd; have HJ := Lib.hid hJ; clear hJ; simp only [List.getD_cons_zero, List.getD_cons_succ, List.mem_cons, List.not_mem_nil, or_false, forall_eq_or_imp, forall_eq] at hA hd; obtain ⟨k8, k9, k10⟩ := hA
      · clear hd k9 k10
        have k8 : a1.tmps[8]?.getD undef = .pointer (some ⟨H, 0, none⟩) := k8
        go_simp
        exact ⟨_, rfl, nR_refl _ _, HJ.out, rfl⟩
      · clear k8 k9 k10
        have h1 : a1.tmps[101]?.getD undef = .pointer (some ⟨H, 2, none⟩) := hd
        have x1 := HJ.out.1.i.c2
        have x2 := HJ.out.1.i.c3
        have x3 := HJ.out.1.i.c4
        clear hd
        go_simp
        exact ⟨_, rfl, nR_refl _ _, HJ.out, rfl⟩
      · clear hd k8 k10
        have k9 : a1.tmps[9]?.getD undef = .pointer (some ⟨N, 0, none⟩) := k9
        have x1 : w1.cell? ⟨N, 0, none⟩ = some (.int .i64 ea.1) := HJ.out.1.a.cell' 0 rfl
        have x2 : w1.cell? ⟨N, 1, none⟩ = some (.int .i64 ea.2.1) := HJ.out.1.a.cell' 1 rfl
        have x3 : w1.cell? ⟨N, 2, none⟩ = some (.int .i64 ea.2.2) := HJ.out.1.a.cell' 2 rfl
        go_simp
        exact ⟨_, rfl, nR_refl _ _, HJ.out, rfl⟩
      · clear k8 k9 k10
        obtain ⟨h1, h2⟩ := hd
        have h1 : a1.tmps[102]?.getD undef = .agg #[.int .i64 it.fx, .int .i64 it.fy, .int .i64 it.fz] := h1
        have h2 : a1.tmps[103]?.getD undef = .agg #[.int .i64 ea.1, .int .i64 ea.2.1, .int .i64 ea.2.2] := h2
        go_simp
        refine (HSD.out w1).mono ?_
        rintro e w2 ⟨rfl, b2⟩
        exact ⟨_, rfl, nR_below HJ.out.2.1 b2, HJ.out.below b2, rfl⟩
      · clear hd k8 k9
        have k10 : a1.tmps[10]?.getD undef = .pointer (some ⟨N + 1, 0, none⟩) := k10
        have x1 : w1.cell? ⟨N + 1, 0, none⟩ = some (.int .i64 eb.1) := HJ.out.1.b.cell' 0 rfl
        have x2 : w1.cell? ⟨N + 1, 1, none⟩ = some (.int .i64 eb.2.1) := HJ.out.1.b.cell' 1 rfl
        have x3 : w1.cell? ⟨N + 1, 2, none⟩ = some (.int .i64 eb.2.2) := HJ.out.1.b.cell' 2 rfl
        go_simp
        exact ⟨_, rfl, nR_refl _ _, HJ.out, rfl⟩
      · clear hd k9 k10
        have k8 : a1.tmps[8]?.getD undef = .pointer (some ⟨H, 0, none⟩) := k8
        go_simp
        exact ⟨_, rfl, nR_refl _ _, HJ.out, rfl⟩
      · clear k8 k9 k10
        have h1 : a1.tmps[106]?.getD undef = .pointer (some ⟨H, 5, none⟩) := hd
        have x1 := HJ.out.1.i.c5
        have x2 := HJ.out.1.i.c6
        have x3 := HJ.out.1.i.c7
        clear hd
        go_simp
        exact ⟨_, rfl, nR_refl _ _, HJ.out, rfl⟩
      · clear k8 k9 k10
        obtain ⟨h1, h2⟩ := hd
        have h1 : a1.tmps[105]?.getD undef = .agg #[.int .i64 eb.1, .int .i64 eb.2.1, .int .i64 eb.2.2] := h1
        have h2 : a1.tmps[107]?.getD undef = .agg #[.int .i64 it.tx, .int .i64 it.ty, .int .i64 it.tz] := h2
        go_simp
        refine (HSE.out w1).mono ?_
        rintro e w2 ⟨rfl, b2⟩
        exact ⟨_, rfl, nR_below HJ.out.2.1 b2, HJ.out.below b2, rfl⟩
      · clear k8 k9 k10 hd
        go_simp
        exact ⟨_, rfl, nR_below HJ.out.2.1 ((Below.refl _ _).alloc (Nat.le_refl _) _), HJ.out.below ((Below.refl _ _).alloc (Nat.le_refl _) _), w1.heap.size, rfl, HJ.out.2.1, 0, 0, 0, ⟨Int.le_refl _, Int.le_refl _, Int.le_refl _⟩, Blk.new _ _ _⟩
      · clear k8 k9 k10 hd
        go_simp
        exact ⟨_, rfl, nR_below HJ.out.2.1 ((Below.refl _ _).alloc (Nat.le_refl _) _), HJ.out.below ((Below.refl _ _).alloc (Nat.le_refl _) _), w1.heap.size, rfl, HJ.out.2.1, 0, 0, 0, ⟨Int.le_refl _, Int.le_refl _, Int.le_refl _⟩, Blk.new _ _ _⟩
      · clear k8 k9 k10
        obtain ⟨⟨b, h1, h2, x, y, z, h3, h4⟩, h5⟩ := hd
        have h1 : a1.tmps[14]?.getD undef = .pointer (some ⟨b, 0, none⟩) := h1
        have h5 : a1.tmps[104]?.getD undef = .agg #[.int .i64 d1, .int .i64 d2, .int .i64 d3] := h5
        have x1 : w1.cell? ⟨b, 0, none⟩ = some (.int .i64 x) := h4.cell' 0 rfl
        have x2 : w1.cell? ⟨b, 1, none⟩ = some (.int .i64 y) := h4.cell' 1 rfl
        have x3 : w1.cell? ⟨b, 2, none⟩ = some (.int .i64 z) := h4.cell' 2 rfl
        have y1 := h4.frozen 0
        have y2 := h4.frozen 1
        have y3 := h4.frozen 2
        have H4 := Lib.hid h4
        clear h3 h4
        go_simp
        exact ⟨nR_set h2 HND.out H4.out, HJ.out.set h2 q0A q1A q2A q3A q4A _ _ _, undef, trivial⟩
    intro vs w1 hJ hG
    obtain ⟨bd, f1, f2, f3⟩ := hG (8, 14) (by simp)
    obtain ⟨be, g1, g2, g3⟩ := hG (9, 15) (by simp)
    have k7 := hG (7, 108) (by simp)
    clear hG
    simp only [nG] at k7
    simp only at f1 g1
    refine ⟨?_⟩
    simp only [AtOp, List.foldl_cons, List.foldl_nil]
    rw [k7, f1, g1]
    simp only [Act.put, List.setIfInBounds_toArray, List.set_cons_zero, List.set_cons_succ]
    have f4 := (nR_set (u0 := e1) (u1 := e2) (u2 := e3) g2 HNE.out g3.choose_spec.choose_spec.choose_spec.2).2 bd f2 f3
    have g4 := (nR_set (u0 := e1) (u1 := e2) (u2 := e3) g2 HNE.out g3.choose_spec.choose_spec.choose_spec.2).2 be g2 g3
    obtain ⟨x, y, z, g5, g6⟩ := g3
    have x1 : w1.cell? ⟨be, 0, none⟩ = some (.int .i64 x) := g6.cell' 0 rfl
    have x2 : w1.cell? ⟨be, 1, none⟩ = some (.int .i64 y) := g6.cell' 1 rfl
    have x3 : w1.cell? ⟨be, 2, none⟩ = some (.int .i64 z) := g6.cell' 2 rfl
    have y1 := g6.frozen 0
    have y2 := g6.frozen 1
    have y3 := g6.frozen 2
    have F4 := Lib.hid f4
    have G4 := Lib.hid g4
    have HJ := Lib.hid (hJ.set g2 q0A q1A q2A q3A q4A (.int .i64 e1) (.int .i64 e2) (.int .i64 e3))
    clear k7 f1 g1 f3 f4 g4 g5 g6 hJ
    go_simp
    refine on_told (fun W => nJ w it H N lw hg ea eb WA.heap.size P Q p q W ∧ NN W bd ∧ NN W be) ⟨HJ.out, F4.out, G4.out⟩ ?_
    clear x1 x2 x3 y1 y2 y3 F4 G4 HJ
    rintro WB ⟨hjb, hnd, hne⟩
    have HJB := Lib.hid hjb
    have HNDB := Lib.hid hnd
    have HNEB := Lib.hid hne
    clear hjb hnd hne
    go_wp2_with fail
    refine (awake_true _ (HE0.out.below HJB.out.1.bel hlow)).mono ?_
    rintro e WC ⟨rfl, bC⟩
    have HJC := Lib.hid (HJB.out.below bC)
    have HNDC := Lib.hid (HNDB.out.below bC)
    have HNEC := Lib.hid (HNEB.out.below bC)
    have AC := Lib.hid HJC.out.1.i
    clear bC HJB HNDB HNEB
    have lP := HJC.out.2.2.1.lt
    have lQ := HJC.out.2.2.2.lt
    have p1 : WC.cell? ⟨P, 0, none⟩ = some (.int .i64 p.1) := HJC.out.2.2.1.cell' 0 rfl
    have p2 : WC.cell? ⟨P, 1, none⟩ = some (.int .i64 p.2.1) := HJC.out.2.2.1.cell' 1 rfl
    have p3 : WC.cell? ⟨P, 2, none⟩ = some (.int .i64 p.2.2) := HJC.out.2.2.1.cell' 2 rfl
    have q1 : WC.cell? ⟨Q, 0, none⟩ = some (.int .i64 q.1) := HJC.out.2.2.2.cell' 0 rfl
    have q2 : WC.cell? ⟨Q, 1, none⟩ = some (.int .i64 q.2.1) := HJC.out.2.2.2.cell' 1 rfl
    have q3 : WC.cell? ⟨Q, 2, none⟩ = some (.int .i64 q.2.2) := HJC.out.2.2.2.cell' 2 rfl
    have ko := cout_any (some ⟨WC.heap.size, 0, none⟩) 1 [it] p q (WC.alloc (.cells (itA it) 25)) (its_one (ItAt.new WC it)) (by show 1 ≤ 9223372036854775807; omega)
    rw [outL_one HVL.out HMT.out HEC.out, HC.out] at ko
    have ko2 : Calls Tryd.prog 29 #[.slice (some ⟨WC.heap.size, 0, none⟩) 1 1, .agg #[.int .i64 p.1, .int .i64 p.2.1, .int .i64 p.2.2], .agg #[.int .i64 q.1, .int .i64 q.2.1, .int .i64 q.2.2]] (WC.alloc (.cells (itA it) 25)) fun e w' => e = .returned (.int .i64 (0)) ∧ Below (WC.alloc (.cells (itA it) 25)).heap.size (WC.alloc (.cells (itA it) 25)) w' := ko
    have KO := Lib.hid ko2
    clear ko ko2
    go_wp2_with (first
      | ((with_reducible refine gd_item 25 (.tmp 8) H it (by with_unfolding_all rfl) rfl AC.out Tryd.underlying25 (by with_unfolding_all rfl) (by with_unfolding_all kernel_rfl) ?_))
      | ((with_reducible refine gd_it1 (.tmp 111) it rfl (by with_unfolding_all rfl) ?_)))
    refine KO.out.mono ?_
    rintro e WD ⟨rfl, bD⟩
    have bCD : Below WC.heap.size WC WD := ((Below.refl _ WC).alloc (Nat.le_refl _) _).trans (bD.mono (by simp))
    have HJD := Lib.hid (HJC.out.below bCD)
    have HNDD := Lib.hid (HNDC.out.below bCD)
    have HNED := Lib.hid (HNEC.out.below bCD)
    have AD := Lib.hid HJD.out.1.i
    clear AC bD bCD HJC HNDC HNEC p1 p2 p3 q1 q2 q3 lP lQ KO
    have lA := HJD.out.1.a.lt
    have lB := HJD.out.1.b.lt
    have a1 : WD.cell? ⟨N, 0, none⟩ = some (.int .i64 ea.1) := HJD.out.1.a.cell' 0 rfl
    have a2 : WD.cell? ⟨N, 1, none⟩ = some (.int .i64 ea.2.1) := HJD.out.1.a.cell' 1 rfl
    have a3 : WD.cell? ⟨N, 2, none⟩ = some (.int .i64 ea.2.2) := HJD.out.1.a.cell' 2 rfl
    have b1 : WD.cell? ⟨N + 1, 0, none⟩ = some (.int .i64 eb.1) := HJD.out.1.b.cell' 0 rfl
    have b2 : WD.cell? ⟨N + 1, 1, none⟩ = some (.int .i64 eb.2.1) := HJD.out.1.b.cell' 1 rfl
    have b3 : WD.cell? ⟨N + 1, 2, none⟩ = some (.int .i64 eb.2.2) := HJD.out.1.b.cell' 2 rfl
    have ko := cout_any (some ⟨WD.heap.size, 0, none⟩) 1 [it] ea eb (WD.alloc (.cells (itA it) 25)) (its_one (ItAt.new WD it)) (by show 1 ≤ 9223372036854775807; omega)
    rw [outL_one HVL.out HMT.out HEC.out, cmpO_self] at ko
    have ko2 : Calls Tryd.prog 29 #[.slice (some ⟨WD.heap.size, 0, none⟩) 1 1, .agg #[.int .i64 ea.1, .int .i64 ea.2.1, .int .i64 ea.2.2], .agg #[.int .i64 eb.1, .int .i64 eb.2.1, .int .i64 eb.2.2]] (WD.alloc (.cells (itA it) 25)) fun e w' => e = .returned (.int .i64 (-1)) ∧ Below (WD.alloc (.cells (itA it) 25)).heap.size (WD.alloc (.cells (itA it) 25)) w' := ko
    have KO := Lib.hid ko2
    clear ko ko2
    go_wp2_with (first
      | ((with_reducible refine gd_item 25 (.tmp 8) H it (by with_unfolding_all rfl) rfl AD.out Tryd.underlying25 (by with_unfolding_all rfl) (by with_unfolding_all kernel_rfl) ?_))
      | ((with_reducible refine gd_it1 (.tmp 121) it rfl (by with_unfolding_all rfl) ?_)))
    refine KO.out.mono ?_
    rintro e WE ⟨rfl, bE⟩
    have bDE : Below WD.heap.size WD WE := ((Below.refl _ WD).alloc (Nat.le_refl _) _).trans (bE.mono (by simp))
    have BEL := Lib.hid (HJD.out.below bDE).1.bel
    obtain ⟨n1, n2, n3, ⟨m1, m2, m3⟩, hn⟩ := HNDD.out.below bDE
    obtain ⟨n4, n5, n6, ⟨m4, m5, m6⟩, hn'⟩ := HNED.out.below bDE
    have x1 : WE.cell? ⟨bd, 0, none⟩ = some (.int .i64 n1) := hn.cell' 0 rfl
    have x2 : WE.cell? ⟨bd, 1, none⟩ = some (.int .i64 n2) := hn.cell' 1 rfl
    have x3 : WE.cell? ⟨bd, 2, none⟩ = some (.int .i64 n3) := hn.cell' 2 rfl
    have y1 : WE.cell? ⟨be, 0, none⟩ = some (.int .i64 n4) := hn'.cell' 0 rfl
    have y2 : WE.cell? ⟨be, 1, none⟩ = some (.int .i64 n5) := hn'.cell' 1 rfl
    have y3 : WE.cell? ⟨be, 2, none⟩ = some (.int .i64 n6) := hn'.cell' 2 rfl
    have r1 : decide (0 ≤ n1) = true := decide_eq_true m1
    have r2 : decide (0 ≤ n2) = true := decide_eq_true m2
    have r3 : decide (0 ≤ n3) = true := decide_eq_true m3
    have r4 : decide (0 ≤ n4) = true := decide_eq_true m4
    have r5 : decide (0 ≤ n5) = true := decide_eq_true m5
    have r6 : decide (0 ≤ n6) = true := decide_eq_true m6
    clear AD bE bDE HJD HNDD HNED a1 a2 a3 b1 b2 b3 lA lB KO hn hn' m1 m2 m3 m4 m5 m6
    go_wp2_with fail
    go_ret
    exact ⟨rfl, BEL.out⟩
  cases g5 : decide (eb.2.1 ≤ q.2.1)
  · have HC := Lib.hid (show cmpO (ea, eb) p q = true by have := of_decide_eq_false g5; unfold cmpO; simp; omega)
    go_upto_region 11 with fail
    clear a1 a2 a3 b1 b2 b3 p1 p2 p3 q1 q2 q3 g1 g2 g3 g4 g5
    refine wp_region_tabS 11 [(0, 101), (1, 102), (2, 103), (3, 104), (4, 105), (5, 106), (6, 107), (7, 108), (8, 14), (9, 15)]
      [[], [(0, 101)], [], [(1, 102), (2, 103)], [], [], [(5, 106)], [(4, 105), (6, 107)], [], [], [(8, 14), (3, 104)], []]
      [(8, .pointer (some ⟨H, 0, none⟩)), (9, .pointer (some ⟨N, 0, none⟩)), (10, .pointer (some ⟨N + 1, 0, none⟩))]
      (nJ w it H N lw hg ea eb WA.heap.size P Q p q) (nR WA.heap.size) (nG WA.heap.size H (it.fx, it.fy, it.fz) ea (d1, d2, d3) eb (it.tx, it.ty, it.tz) (e1, e2, e3))
      (by kernel_rfl) (by kernel_rfl) (by kernel_rfl) (by kernel_rfl) ?_ ?_ ?_ ?_ ?_
    · intro p hp
      simp only [List.mem_cons, List.not_mem_nil, or_false] at hp
      rcases hp with rfl | rfl | rfl <;> rfl
    · intro i v w1 w2 hg hv
      unfold nG at hv ⊢
      split at hv
      all_goals first
        | exact hv
        | (obtain ⟨b, h1, h2, h3⟩ := hv; exact ⟨b, h1, h2, hg.2 b h2 h3⟩)
    · exact ⟨HZA.out.drew, Nat.le_refl _, HPA.out.drew, HQA.out.drew⟩
    · simp only [EachOp]
      refine ⟨fun _ => ?_, fun _ => ?_, fun _ => ?_, fun _ => ?_, fun _ => ?_, fun _ => ?_, fun _ => ?_, fun _ => ?_, fun _ => ?_, fun _ => ?_, fun _ => ?_, fun h => absurd rfl h, trivial⟩
      all_goals intro a1 w1 hJ hA hd; have HJ := Lib.hid hJ; clear hJ; simp only [List.getD_cons_zero, List.getD_cons_succ, List.mem_cons, List.not_mem_nil, or_false, forall_eq_or_imp, forall_eq] at hA hd; obtain ⟨k8, k9, k10⟩ := hA
      · clear hd k9 k10
        have k8 : a1.tmps[8]?.getD undef = .pointer (some ⟨H, 0, none⟩) := k8
        go_simp
        exact ⟨_, rfl, nR_refl _ _, HJ.out, rfl⟩
      · clear k8 k9 k10
        have h1 : a1.tmps[101]?.getD undef = .pointer (some ⟨H, 2, none⟩) := hd
        have x1 := HJ.out.1.i.c2
        have x2 := HJ.out.1.i.c3
        have x3 := HJ.out.1.i.c4
        clear hd
        go_simp
        exact ⟨_, rfl, nR_refl _ _, HJ.out, rfl⟩
      · clear hd k8 k10
        have k9 : a1.tmps[9]?.getD undef = .pointer (some ⟨N, 0, none⟩) := k9
        have x1 : w1.cell? ⟨N, 0, none⟩ = some (.int .i64 ea.1) := HJ.out.1.a.cell' 0 rfl
        have x2 : w1.cell? ⟨N, 1, none⟩ = some (.int .i64 ea.2.1) := HJ.out.1.a.cell' 1 rfl
        have x3 : w1.cell? ⟨N, 2, none⟩ = some (.int .i64 ea.2.2) := HJ.out.1.a.cell' 2 rfl
        go_simp
        exact ⟨_, rfl, nR_refl _ _, HJ.out, rfl⟩
      · clear k8 k9 k10
        obtain ⟨h1, h2⟩ := hd
        have h1 : a1.tmps[102]?.getD undef = .agg #[.int .i64 it.fx, .int .i64 it.fy, .int .i64 it.fz] := h1
        have h2 : a1.tmps[103]?.getD undef = .agg #[.int .i64 ea.1, .int .i64 ea.2.1, .int .i64 ea.2.2] := h2
        go_simp
        refine (HSD.out w1).mono ?_
        rintro e w2 ⟨rfl, b2⟩
        exact ⟨_, rfl, nR_below HJ.out.2.1 b2, HJ.out.below b2, rfl⟩
      · clear hd k8 k9
        have k10 : a1.tmps[10]?.getD undef = .pointer (some ⟨N + 1, 0, none⟩) := k10
        have x1 : w1.cell? ⟨N + 1, 0, none⟩ = some (.int .i64 eb.1) := HJ.out.1.b.cell' 0 rfl
        have x2 : w1.cell? ⟨N + 1, 1, none⟩ = some (.int .i64 eb.2.1) := HJ.out.1.b.cell' 1 rfl
        have x3 : w1.cell? ⟨N + 1, 2, none⟩ = some (.int .i64 eb.2.2) := HJ.out.1.b.cell' 2 rfl
        go_simp
        exact ⟨_, rfl, nR_refl _ _, HJ.out, rfl⟩
      · clear hd k9 k10
        have k8 : a1.tmps[8]?.getD undef = .pointer (some ⟨H, 0, none⟩) := k8
        go_simp
        exact ⟨_, rfl, nR_refl _ _, HJ.out, rfl⟩
      · clear k8 k9 k10
        have h1 : a1.tmps[106]?.getD undef = .pointer (some ⟨H, 5, none⟩) := hd
        have x1 := HJ.out.1.i.c5
        have x2 := HJ.out.1.i.c6
        have x3 := HJ.out.1.i.c7
        clear hd
        go_simp
        exact ⟨_, rfl, nR_refl _ _, HJ.out, rfl⟩
      · clear k8 k9 k10
        obtain ⟨h1, h2⟩ := hd
        have h1 : a1.tmps[105]?.getD undef = .agg #[.int .i64 eb.1, .int .i64 eb.2.1, .int .i64 eb.2.2] := h1
        have h2 : a1.tmps[107]?.getD undef = .agg #[.int .i64 it.tx, .int .i64 it.ty, .int .i64 it.tz] := h2
        go_simp
        refine (HSE.out w1).mono ?_
        rintro e w2 ⟨rfl, b2⟩
        exact ⟨_, rfl, nR_below HJ.out.2.1 b2, HJ.out.below b2, rfl⟩
      · clear k8 k9 k10 hd
        go_simp
        exact ⟨_, rfl, nR_below HJ.out.2.1 ((Below.refl _ _).alloc (Nat.le_refl _) _), HJ.out.below ((Below.refl _ _).alloc (Nat.le_refl _) _), w1.heap.size, rfl, HJ.out.2.1, 0, 0, 0, ⟨Int.le_refl _, Int.le_refl _, Int.le_refl _⟩, Blk.new _ _ _⟩
      · clear k8 k9 k10 hd
        go_simp
        exact ⟨_, rfl, nR_below HJ.out.2.1 ((Below.refl _ _).alloc (Nat.le_refl _) _), HJ.out.below ((Below.refl _ _).alloc (Nat.le_refl _) _), w1.heap.size, rfl, HJ.out.2.1, 0, 0, 0, ⟨Int.le_refl _, Int.le_refl _, Int.le_refl _⟩, Blk.new _ _ _⟩
      · clear k8 k9 k10
        obtain ⟨⟨b, h1, h2, x, y, z, h3, h4⟩, h5⟩ := hd
        have h1 : a1.tmps[14]?.getD undef = .pointer (some ⟨b, 0, none⟩) := h1
        have h5 : a1.tmps[104]?.getD undef = .agg #[.int .i64 d1, .int .i64 d2, .int .i64 d3] := h5
        have x1 : w1.cell? ⟨b, 0, none⟩ = some (.int .i64 x) := h4.cell' 0 rfl
        have x2 : w1.cell? ⟨b, 1, none⟩ = some (.int .i64 y) := h4.cell' 1 rfl
        have x3 : w1.cell? ⟨b, 2, none⟩ = some (.int .i64 z) := h4.cell' 2 rfl
        have y1 := h4.frozen 0
        have y2 := h4.frozen 1
        have y3 := h4.frozen 2
        have H4 := Lib.hid h4
        clear h3 h4
        go_simp
        exact ⟨nR_set h2 HND.out H4.out, HJ.out.set h2 q0A q1A q2A q3A q4A _ _ _, undef, trivial⟩
    intro vs w1 hJ hG
    obtain ⟨bd, f1, f2, f3⟩ := hG (8, 14) (by simp)
    obtain ⟨be, g1, g2, g3⟩ := hG (9, 15) (by simp)
    have k7 := hG (7, 108) (by simp)
    clear hG
    simp only [nG] at k7
    simp only at f1 g1
    refine ⟨?_⟩
    simp only [AtOp, List.foldl_cons, List.foldl_nil]
    rw [k7, f1, g1]
    simp only [Act.put, List.setIfInBounds_toArray, List.set_cons_zero, List.set_cons_succ]
    have f4 := (nR_set (u0 := e1) (u1 := e2) (u2 := e3) g2 HNE.out g3.choose_spec.choose_spec.choose_spec.2).2 bd f2 f3
    have g4 := (nR_set (u0 := e1) (u1 := e2) (u2 := e3) g2 HNE.out g3.choose_spec.choose_spec.choose_spec.2).2 be g2 g3
    obtain ⟨x, y, z, g5, g6⟩ := g3
    have x1 : w1.cell? ⟨be, 0, none⟩ = some (.int .i64 x) := g6.cell' 0 rfl
    have x2 : w1.cell? ⟨be, 1, none⟩ = some (.int .i64 y) := g6.cell' 1 rfl
    have x3 : w1.cell? ⟨be, 2, none⟩ = some (.int .i64 z) := g6.cell' 2 rfl
    have y1 := g6.frozen 0
    have y2 := g6.frozen 1
    have y3 := g6.frozen 2
    have F4 := Lib.hid f4
    have G4 := Lib.hid g4
    have HJ := Lib.hid (hJ.set g2 q0A q1A q2A q3A q4A (.int .i64 e1) (.int .i64 e2) (.int .i64 e3))
    clear k7 f1 g1 f3 f4 g4 g5 g6 hJ
    go_simp
    refine on_told (fun W => nJ w it H N lw hg ea eb WA.heap.size P Q p q W ∧ NN W bd ∧ NN W be) ⟨HJ.out, F4.out, G4.out⟩ ?_
    clear x1 x2 x3 y1 y2 y3 F4 G4 HJ
    rintro WB ⟨hjb, hnd, hne⟩
    have HJB := Lib.hid hjb
    have HNDB := Lib.hid hnd
    have HNEB := Lib.hid hne
    clear hjb hnd hne
    go_wp2_with fail
    refine (awake_true _ (HE0.out.below HJB.out.1.bel hlow)).mono ?_
    rintro e WC ⟨rfl, bC⟩
    have HJC := Lib.hid (HJB.out.below bC)
    have HNDC := Lib.hid (HNDB.out.below bC)
    have HNEC := Lib.hid (HNEB.out.below bC)
    have AC := Lib.hid HJC.out.1.i
    clear bC HJB HNDB HNEB
    have lP := HJC.out.2.2.1.lt
    have lQ := HJC.out.2.2.2.lt
    have p1 : WC.cell? ⟨P, 0, none⟩ = some (.int .i64 p.1) := HJC.out.2.2.1.cell' 0 rfl
    have p2 : WC.cell? ⟨P, 1, none⟩ = some (.int .i64 p.2.1) := HJC.out.2.2.1.cell' 1 rfl
    have p3 : WC.cell? ⟨P, 2, none⟩ = some (.int .i64 p.2.2) := HJC.out.2.2.1.cell' 2 rfl
    have q1 : WC.cell? ⟨Q, 0, none⟩ = some (.int .i64 q.1) := HJC.out.2.2.2.cell' 0 rfl
    have q2 : WC.cell? ⟨Q, 1, none⟩ = some (.int .i64 q.2.1) := HJC.out.2.2.2.cell' 1 rfl
    have q3 : WC.cell? ⟨Q, 2, none⟩ = some (.int .i64 q.2.2) := HJC.out.2.2.2.cell' 2 rfl
    have ko := cout_any (some ⟨WC.heap.size, 0, none⟩) 1 [it] p q (WC.alloc (.cells (itA it) 25)) (its_one (ItAt.new WC it)) (by show 1 ≤ 9223372036854775807; omega)
    rw [outL_one HVL.out HMT.out HEC.out, HC.out] at ko
    have ko2 : Calls Tryd.prog 29 #[.slice (some ⟨WC.heap.size, 0, none⟩) 1 1, .agg #[.int .i64 p.1, .int .i64 p.2.1, .int .i64 p.2.2], .agg #[.int .i64 q.1, .int .i64 q.2.1, .int .i64 q.2.2]] (WC.alloc (.cells (itA it) 25)) fun e w' => e = .returned (.int .i64 (0)) ∧ Below (WC.alloc (.cells (itA it) 25)).heap.size (WC.alloc (.cells (itA it) 25)) w' := ko
    have KO := Lib.hid ko2
    clear ko ko2
    go_wp2_with (first
      | ((with_reducible refine gd_item 25 (.tmp 8) H it (by with_unfolding_all rfl) rfl AC.out Tryd.underlying25 (by with_unfolding_all rfl) (by with_unfolding_all kernel_rfl) ?_))
      | ((with_reducible refine gd_it1 (.tmp 111) it rfl (by with_unfolding_all rfl) ?_)))
    refine KO.out.mono ?_
    rintro e WD ⟨rfl, bD⟩
    have bCD : Below WC.heap.size WC WD := ((Below.refl _ WC).alloc (Nat.le_refl _) _).trans (bD.mono (by simp))
    have HJD := Lib.hid (HJC.out.below bCD)
    have HNDD := Lib.hid (HNDC.out.below bCD)
    have HNED := Lib.hid (HNEC.out.below bCD)
    have AD := Lib.hid HJD.out.1.i
    clear AC bD bCD HJC HNDC HNEC p1 p2 p3 q1 q2 q3 lP lQ KO
    have lA := HJD.out.1.a.lt
    have lB := HJD.out.1.b.lt
    have a1 : WD.cell? ⟨N, 0, none⟩ = some (.int .i64 ea.1) := HJD.out.1.a.cell' 0 rfl
    have a2 : WD.cell? ⟨N, 1, none⟩ = some (.int .i64 ea.2.1) := HJD.out.1.a.cell' 1 rfl
    have a3 : WD.cell? ⟨N, 2, none⟩ = some (.int .i64 ea.2.2) := HJD.out.1.a.cell' 2 rfl
    have b1 : WD.cell? ⟨N + 1, 0, none⟩ = some (.int .i64 eb.1) := HJD.out.1.b.cell' 0 rfl
    have b2 : WD.cell? ⟨N + 1, 1, none⟩ = some (.int .i64 eb.2.1) := HJD.out.1.b.cell' 1 rfl
    have b3 : WD.cell? ⟨N + 1, 2, none⟩ = some (.int .i64 eb.2.2) := HJD.out.1.b.cell' 2 rfl
    have ko := cout_any (some ⟨WD.heap.size, 0, none⟩) 1 [it] ea eb (WD.alloc (.cells (itA it) 25)) (its_one (ItAt.new WD it)) (by show 1 ≤ 9223372036854775807; omega)
    rw [outL_one HVL.out HMT.out HEC.out, cmpO_self] at ko
    have ko2 : Calls Tryd.prog 29 #[.slice (some ⟨WD.heap.size, 0, none⟩) 1 1, .agg #[.int .i64 ea.1, .int .i64 ea.2.1, .int .i64 ea.2.2], .agg #[.int .i64 eb.1, .int .i64 eb.2.1, .int .i64 eb.2.2]] (WD.alloc (.cells (itA it) 25)) fun e w' => e = .returned (.int .i64 (-1)) ∧ Below (WD.alloc (.cells (itA it) 25)).heap.size (WD.alloc (.cells (itA it) 25)) w' := ko
    have KO := Lib.hid ko2
    clear ko ko2
    go_wp2_with (first
      | ((with_reducible refine gd_item 25 (.tmp 8) H it (by with_unfolding_all rfl) rfl AD.out Tryd.underlying25 (by with_unfolding_all rfl) (by with_unfolding_all kernel_rfl) ?_))
      | ((with_reducible refine gd_it1 (.tmp 121) it rfl (by with_unfolding_all rfl) ?_)))
    refine KO.out.mono ?_
    rintro e WE ⟨rfl, bE⟩
    have bDE : Below WD.heap.size WD WE := ((Below.refl _ WD).alloc (Nat.le_refl _) _).trans (bE.mono (by simp))
    have BEL := Lib.hid (HJD.out.below bDE).1.bel
    obtain ⟨n1, n2, n3, ⟨m1, m2, m3⟩, hn⟩ := HNDD.out.below bDE
    obtain ⟨n4, n5, n6, ⟨m4, m5, m6⟩, hn'⟩ := HNED.out.below bDE
    have x1 : WE.cell? ⟨bd, 0, none⟩ = some (.int .i64 n1) := hn.cell' 0 rfl
    have x2 : WE.cell? ⟨bd, 1, none⟩ = some (.int .i64 n2) := hn.cell' 1 rfl
    have x3 : WE.cell? ⟨bd, 2, none⟩ = some (.int .i64 n3) := hn.cell' 2 rfl
    have y1 : WE.cell? ⟨be, 0, none⟩ = some (.int .i64 n4) := hn'.cell' 0 rfl
    have y2 : WE.cell? ⟨be, 1, none⟩ = some (.int .i64 n5) := hn'.cell' 1 rfl
    have y3 : WE.cell? ⟨be, 2, none⟩ = some (.int .i64 n6) := hn'.cell' 2 rfl
    have r1 : decide (0 ≤ n1) = true := decide_eq_true m1
    have r2 : decide (0 ≤ n2) = true := decide_eq_true m2
    have r3 : decide (0 ≤ n3) = true := decide_eq_true m3
    have r4 : decide (0 ≤ n4) = true := decide_eq_true m4
    have r5 : decide (0 ≤ n5) = true := decide_eq_true m5
    have r6 : decide (0 ≤ n6) = true := decide_eq_true m6
    clear AD bE bDE HJD HNDD HNED a1 a2 a3 b1 b2 b3 lA lB KO hn hn' m1 m2 m3 m4 m5 m6
    go_wp2_with fail
    go_ret
    exact ⟨rfl, BEL.out⟩
  cases g6 : decide (eb.2.2 ≤ q.2.2)
  · have HC := Lib.hid (show cmpO (ea, eb) p q = true by have := of_decide_eq_false g6; unfold cmpO; simp; omega)
    go_upto_region 11 with fail
    clear a1 a2 a3 b1 b2 b3 p1 p2 p3 q1 q2 q3 g1 g2 g3 g4 g5 g6
    refine wp_region_tabS 11 [(0, 101), (1, 102), (2, 103), (3, 104), (4, 105), (5, 106), (6, 107), (7, 108), (8, 14), (9, 15)]
      [[], [(0, 101)], [], [(1, 102), (2, 103)], [], [], [(5, 106)], [(4, 105), (6, 107)], [], [], [(8, 14), (3, 104)], []]
      [(8, .pointer (some ⟨H, 0, none⟩)), (9, .pointer (some ⟨N, 0, none⟩)), (10, .pointer (some ⟨N + 1, 0, none⟩))]
      (nJ w it H N lw hg ea eb WA.heap.size P Q p q) (nR WA.heap.size) (nG WA.heap.size H (it.fx, it.fy, it.fz) ea (d1, d2, d3) eb (it.tx, it.ty, it.tz) (e1, e2, e3))
      (by kernel_rfl) (by kernel_rfl) (by kernel_rfl) (by kernel_rfl) ?_ ?_ ?_ ?_ ?_
    · intro p hp
      simp only [List.mem_cons, List.not_mem_nil, or_false] at hp
      rcases hp with rfl | rfl | rfl <;> rfl
    · intro i v w1 w2 hg hv
      unfold nG at hv ⊢
      split at hv
      all_goals first
        | exact hv
        | (obtain ⟨b, h1, h2, h3⟩ := hv; exact ⟨b, h1, h2, hg.2 b h2 h3⟩)
    · exact ⟨HZA.out.drew, Nat.le_refl _, HPA.out.drew, HQA.out.drew⟩
    · simp only [EachOp]
      refine ⟨fun _ => ?_, fun _ => ?_, fun _ => ?_, fun _ => ?_, fun _ => ?_, fun _ => ?_, fun _ => ?_, fun _ => ?_, fun _ => ?_, fun _ => ?_, fun _ => ?_, fun h => absurd rfl h, trivial⟩
      all_goals intro a1 w1 hJ hA hd; have HJ := Lib.hid hJ; clear hJ; simp only [List.getD_cons_zero, List.getD_cons_succ, List.mem_cons, List.not_mem_nil, or_false, forall_eq_or_imp, forall_eq] at hA hd; obtain ⟨k8, k9, k10⟩ := hA
      · clear hd k9 k10
        have k8 : a1.tmps[8]?.getD undef = .pointer (some ⟨H, 0, none⟩) := k8
        go_simp
        exact ⟨_, rfl, nR_refl _ _, HJ.out, rfl⟩
      · clear k8 k9 k10
        have h1 : a1.tmps[101]?.getD undef = .pointer (some ⟨H, 2, none⟩) := hd
        have x1 := HJ.out.1.i.c2
        have x2 := HJ.out.1.i.c3
        have x3 := HJ.out.1.i.c4
        clear hd
        go_simp
        exact ⟨_, rfl, nR_refl _ _, HJ.out, rfl⟩
      · clear hd k8 k10
        have k9 : a1.tmps[9]?.getD undef = .pointer (some ⟨N, 0, none⟩) := k9
        have x1 : w1.cell? ⟨N, 0, none⟩ = some (.int .i64 ea.1) := HJ.out.1.a.cell' 0 rfl
        have x2 : w1.cell? ⟨N, 1, none⟩ = some (.int .i64 ea.2.1) := HJ.out.1.a.cell' 1 rfl
        have x3 : w1.cell? ⟨N, 2, none⟩ = some (.int .i64 ea.2.2) := HJ.out.1.a.cell' 2 rfl
        go_simp
        exact ⟨_, rfl, nR_refl _ _, HJ.out, rfl⟩
      · clear k8 k9 k10
        obtain ⟨h1, h2⟩ := hd
        have h1 : a1.tmps[102]?.getD undef = .agg #[.int .i64 it.fx, .int .i64 it.fy, .int .i64 it.fz] := h1
        have h2 : a1.tmps[103]?.getD undef = .agg #[.int .i64 ea.1, .int .i64 ea.2.1, .int .i64 ea.2.2] := h2
        go_simp
        refine (HSD.out w1).mono ?_
        rintro e w2 ⟨rfl, b2⟩
        exact ⟨_, rfl, nR_below HJ.out.2.1 b2, HJ.out.below b2, rfl⟩
      · clear hd k8 k9
        have k10 : a1.tmps[10]?.getD undef = .pointer (some ⟨N + 1, 0, none⟩) := k10
        have x1 : w1.cell? ⟨N + 1, 0, none⟩ = some (.int .i64 eb.1) := HJ.out.1.b.cell' 0 rfl
        have x2 : w1.cell? ⟨N + 1, 1, none⟩ = some (.int .i64 eb.2.1) := HJ.out.1.b.cell' 1 rfl
        have x3 : w1.cell? ⟨N + 1, 2, none⟩ = some (.int .i64 eb.2.2) := HJ.out.1.b.cell' 2 rfl
        go_simp
        exact ⟨_, rfl, nR_refl _ _, HJ.out, rfl⟩
      · clear hd k9 k10
        have k8 : a1.tmps[8]?.getD undef = .pointer (some ⟨H, 0, none⟩) := k8
        go_simp
        exact ⟨_, rfl, nR_refl _ _, HJ.out, rfl⟩
      · clear k8 k9 k10
        have h1 : a1.tmps[106]?.getD undef = .pointer (some ⟨H, 5, none⟩) := hd
        have x1 := HJ.out.1.i.c5
        have x2 := HJ.out.1.i.c6
        have x3 := HJ.out.1.i.c7
        clear hd
        go_simp
        exact ⟨_, rfl, nR_refl _ _, HJ.out, rfl⟩
      · clear k8 k9 k10
        obtain ⟨h1, h2⟩ := hd
        have h1 : a1.tmps[105]?.getD undef = .agg #[.int .i64 eb.1, .int .i64 eb.2.1, .int .i64 eb.2.2] := h1
        have h2 : a1.tmps[107]?.getD undef = .agg #[.int .i64 it.tx, .int .i64 it.ty, .int .i64 it.tz] := h2
        go_simp
        refine (HSE.out w1).mono ?_
        rintro e w2 ⟨rfl, b2⟩
        exact ⟨_, rfl, nR_below HJ.out.2.1 b2, HJ.out.below b2, rfl⟩
      · clear k8 k9 k10 hd
        go_simp
        exact ⟨_, rfl, nR_below HJ.out.2.1 ((Below.refl _ _).alloc (Nat.le_refl _) _), HJ.out.below ((Below.refl _ _).alloc (Nat.le_refl _) _), w1.heap.size, rfl, HJ.out.2.1, 0, 0, 0, ⟨Int.le_refl _, Int.le_refl _, Int.le_refl _⟩, Blk.new _ _ _⟩
      · clear k8 k9 k10 hd
        go_simp
        exact ⟨_, rfl, nR_below HJ.out.2.1 ((Below.refl _ _).alloc (Nat.le_refl _) _), HJ.out.below ((Below.refl _ _).alloc (Nat.le_refl _) _), w1.heap.size, rfl, HJ.out.2.1, 0, 0, 0, ⟨Int.le_refl _, Int.le_refl _, Int.le_refl _⟩, Blk.new _ _ _⟩
      · clear k8 k9 k10
        obtain ⟨⟨b, h1, h2, x, y, z, h3, h4⟩, h5⟩ := hd
        have h1 : a1.tmps[14]?.getD undef = .pointer (some ⟨b, 0, none⟩) := h1
        have h5 : a1.tmps[104]?.getD undef = .agg #[.int .i64 d1, .int .i64 d2, .int .i64 d3] := h5
        have x1 : w1.cell? ⟨b, 0, none⟩ = some (.int .i64 x) := h4.cell' 0 rfl
        have x2 : w1.cell? ⟨b, 1, none⟩ = some (.int .i64 y) := h4.cell' 1 rfl
        have x3 : w1.cell? ⟨b, 2, none⟩ = some (.int .i64 z) := h4.cell' 2 rfl
        have y1 := h4.frozen 0
        have y2 := h4.frozen 1
        have y3 := h4.frozen 2
        have H4 := Lib.hid h4
        clear h3 h4
        go_simp
        exact ⟨nR_set h2 HND.out H4.out, HJ.out.set h2 q0A q1A q2A q3A q4A _ _ _, undef, trivial⟩
    intro vs w1 hJ hG
    obtain ⟨bd, f1, f2, f3⟩ := hG (8, 14) (by simp)
    obtain ⟨be, g1, g2, g3⟩ := hG (9, 15) (by simp)
    have k7 := hG (7, 108) (by simp)
    clear hG
    simp only [nG] at k7
    simp only at f1 g1
    refine ⟨?_⟩
    simp only [AtOp, List.foldl_cons, List.foldl_nil]
    rw [k7, f1, g1]
    simp only [Act.put, List.setIfInBounds_toArray, List.set_cons_zero, List.set_cons_succ]
    have f4 := (nR_set (u0 := e1) (u1 := e2) (u2 := e3) g2 HNE.out g3.choose_spec.choose_spec.choose_spec.2).2 bd f2 f3
    have g4 := (nR_set (u0 := e1) (u1 := e2) (u2 := e3) g2 HNE.out g3.choose_spec.choose_spec.choose_spec.2).2 be g2 g3
    obtain ⟨x, y, z, g5, g6⟩ := g3
    have x1 : w1.cell? ⟨be, 0, none⟩ = some (.int .i64 x) := g6.cell' 0 rfl
    have x2 : w1.cell? ⟨be, 1, none⟩ = some (.int .i64 y) := g6.cell' 1 rfl
    have x3 : w1.cell? ⟨be, 2, none⟩ = some (.int .i64 z) := g6.cell' 2 rfl
    have y1 := g6.frozen 0
    have y2 := g6.frozen 1
    have y3 := g6.frozen 2
    have F4 := Lib.hid f4
    have G4 := Lib.hid g4
    have HJ := Lib.hid (hJ.set g2 q0A q1A q2A q3A q4A (.int .i64 e1) (.int .i64 e2) (.int .i64 e3))
    clear k7 f1 g1 f3 f4 g4 g5 g6 hJ
    go_simp
    refine on_told (fun W => nJ w it H N lw hg ea eb WA.heap.size P Q p q W ∧ NN W bd ∧ NN W be) ⟨HJ.out, F4.out, G4.out⟩ ?_
    clear x1 x2 x3 y1 y2 y3 F4 G4 HJ
    rintro WB ⟨hjb, hnd, hne⟩
    have HJB := Lib.hid hjb
    have HNDB := Lib.hid hnd
    have HNEB := Lib.hid hne
    clear hjb hnd hne
    go_wp2_with fail
    refine (awake_true _ (HE0.out.below HJB.out.1.bel hlow)).mono ?_
    rintro e WC ⟨rfl, bC⟩
    have HJC := Lib.hid (HJB.out.below bC)
    have HNDC := Lib.hid (HNDB.out.below bC)
    have HNEC := Lib.hid (HNEB.out.below bC)
    have AC := Lib.hid HJC.out.1.i
    clear bC HJB HNDB HNEB
    have lP := HJC.out.2.2.1.lt
    have lQ := HJC.out.2.2.2.lt
    have p1 : WC.cell? ⟨P, 0, none⟩ = some (.int .i64 p.1) := HJC.out.2.2.1.cell' 0 rfl
    have p2 : WC.cell? ⟨P, 1, none⟩ = some (.int .i64 p.2.1) := HJC.out.2.2.1.cell' 1 rfl
    have p3 : WC.cell? ⟨P, 2, none⟩ = some (.int .i64 p.2.2) := HJC.out.2.2.1.cell' 2 rfl
    have q1 : WC.cell? ⟨Q, 0, none⟩ = some (.int .i64 q.1) := HJC.out.2.2.2.cell' 0 rfl
    have q2 : WC.cell? ⟨Q, 1, none⟩ = some (.int .i64 q.2.1) := HJC.out.2.2.2.cell' 1 rfl
    have q3 : WC.cell? ⟨Q, 2, none⟩ = some (.int .i64 q.2.2) := HJC.out.2.2.2.cell' 2 rfl
    have ko := cout_any (some ⟨WC.heap.size, 0, none⟩) 1 [it] p q (WC.alloc (.cells (itA it) 25)) (its_one (ItAt.new WC it)) (by show 1 ≤ 9223372036854775807; omega)
    rw [outL_one HVL.out HMT.out HEC.out, HC.out] at ko
    have ko2 : Calls Tryd.prog 29 #[.slice (some ⟨WC.heap.size, 0, none⟩) 1 1, .agg #[.int .i64 p.1, .int .i64 p.2.1, .int .i64 p.2.2], .agg #[.int .i64 q.1, .int .i64 q.2.1, .int .i64 q.2.2]] (WC.alloc (.cells (itA it) 25)) fun e w' => e = .returned (.int .i64 (0)) ∧ Below (WC.alloc (.cells (itA it) 25)).heap.size (WC.alloc (.cells (itA it) 25)) w' := ko
    have KO := Lib.hid ko2
    clear ko ko2
    go_wp2_with (first
      | ((with_reducible refine gd_item 25 (.tmp 8) H it (by with_unfolding_all rfl) rfl AC.out Tryd.underlying25 (by with_unfolding_all rfl) (by with_unfolding_all kernel_rfl) ?_))
      | ((with_reducible refine gd_it1 (.tmp 111) it rfl (by with_unfolding_all rfl) ?_)))
    refine KO.out.mono ?_
    rintro e WD ⟨rfl, bD⟩
    have bCD : Below WC.heap.size WC WD := ((Below.refl _ WC).alloc (Nat.le_refl _) _).trans (bD.mono (by simp))
    have HJD := Lib.hid (HJC.out.below bCD)
    have HNDD := Lib.hid (HNDC.out.below bCD)
    have HNED := Lib.hid (HNEC.out.below bCD)
    have AD := Lib.hid HJD.out.1.i
    clear AC bD bCD HJC HNDC HNEC p1 p2 p3 q1 q2 q3 lP lQ KO
    have lA := HJD.out.1.a.lt
    have lB := HJD.out.1.b.lt
    have a1 : WD.cell? ⟨N, 0, none⟩ = some (.int .i64 ea.1) := HJD.out.1.a.cell' 0 rfl
    have a2 : WD.cell? ⟨N, 1, none⟩ = some (.int .i64 ea.2.1) := HJD.out.1.a.cell' 1 rfl
    have a3 : WD.cell? ⟨N, 2, none⟩ = some (.int .i64 ea.2.2) := HJD.out.1.a.cell' 2 rfl
    have b1 : WD.cell? ⟨N + 1, 0, none⟩ = some (.int .i64 eb.1) := HJD.out.1.b.cell' 0 rfl
    have b2 : WD.cell? ⟨N + 1, 1, none⟩ = some (.int .i64 eb.2.1) := HJD.out.1.b.cell' 1 rfl
    have b3 : WD.cell? ⟨N + 1, 2, none⟩ = some (.int .i64 eb.2.2) := HJD.out.1.b.cell' 2 rfl
    have ko := cout_any (some ⟨WD.heap.size, 0, none⟩) 1 [it] ea eb (WD.alloc (.cells (itA it) 25)) (its_one (ItAt.new WD it)) (by show 1 ≤ 9223372036854775807; omega)
    rw [outL_one HVL.out HMT.out HEC.out, cmpO_self] at ko
    have ko2 : Calls Tryd.prog 29 #[.slice (some ⟨WD.heap.size, 0, none⟩) 1 1, .agg #[.int .i64 ea.1, .int .i64 ea.2.1, .int .i64 ea.2.2], .agg #[.int .i64 eb.1, .int .i64 eb.2.1, .int .i64 eb.2.2]] (WD.alloc (.cells (itA it) 25)) fun e w' => e = .returned (.int .i64 (-1)) ∧ Below (WD.alloc (.cells (itA it) 25)).heap.size (WD.alloc (.cells (itA it) 25)) w' := ko
    have KO := Lib.hid ko2
    clear ko ko2
    go_wp2_with (first
      | ((with_reducible refine gd_item 25 (.tmp 8) H it (by with_unfolding_all rfl) rfl AD.out Tryd.underlying25 (by with_unfolding_all rfl) (by with_unfolding_all kernel_rfl) ?_))
      | ((with_reducible refine gd_it1 (.tmp 121) it rfl (by with_unfolding_all rfl) ?_)))
    refine KO.out.mono ?_
    rintro e WE ⟨rfl, bE⟩
    have bDE : Below WD.heap.size WD WE := ((Below.refl _ WD).alloc (Nat.le_refl _) _).trans (bE.mono (by simp))
    have BEL := Lib.hid (HJD.out.below bDE).1.bel
    obtain ⟨n1, n2, n3, ⟨m1, m2, m3⟩, hn⟩ := HNDD.out.below bDE
    obtain ⟨n4, n5, n6, ⟨m4, m5, m6⟩, hn'⟩ := HNED.out.below bDE
    have x1 : WE.cell? ⟨bd, 0, none⟩ = some (.int .i64 n1) := hn.cell' 0 rfl
    have x2 : WE.cell? ⟨bd, 1, none⟩ = some (.int .i64 n2) := hn.cell' 1 rfl
    have x3 : WE.cell? ⟨bd, 2, none⟩ = some (.int .i64 n3) := hn.cell' 2 rfl
    have y1 : WE.cell? ⟨be, 0, none⟩ = some (.int .i64 n4) := hn'.cell' 0 rfl
    have y2 : WE.cell? ⟨be, 1, none⟩ = some (.int .i64 n5) := hn'.cell' 1 rfl
    have y3 : WE.cell? ⟨be, 2, none⟩ = some (.int .i64 n6) := hn'.cell' 2 rfl
    have r1 : decide (0 ≤ n1) = true := decide_eq_true m1
    have r2 : decide (0 ≤ n2) = true := decide_eq_true m2
    have r3 : decide (0 ≤ n3) = true := decide_eq_true m3
    have r4 : decide (0 ≤ n4) = true := decide_eq_true m4
    have r5 : decide (0 ≤ n5) = true := decide_eq_true m5
    have r6 : decide (0 ≤ n6) = true := decide_eq_true m6
    clear AD bE bDE HJD HNDD HNED a1 a2 a3 b1 b2 b3 lA lB KO hn hn' m1 m2 m3 m4 m5 m6
    go_wp2_with fail
    go_ret
    exact ⟨rfl, BEL.out⟩
  have HC := Lib.hid (show cmpO (ea, eb) p q = false by
    have e1 := of_decide_eq_true g1
    have e2 := of_decide_eq_true g2
    have e3 := of_decide_eq_true g3
    have e4 := of_decide_eq_true g4
    have e5 := of_decide_eq_true g5
    have e6 := of_decide_eq_true g6
    unfold cmpO
    simp
    omega)
  go_upto_region 11 with fail
  clear a1 a2 a3 b1 b2 b3 p1 p2 p3 q1 q2 q3 g1 g2 g3 g4 g5 g6
  refine wp_region_tabS 11 [(0, 101), (1, 102), (2, 103), (3, 104), (4, 105), (5, 106), (6, 107), (7, 108), (8, 14), (9, 15)]
    [[], [(0, 101)], [], [(1, 102), (2, 103)], [], [], [(5, 106)], [(4, 105), (6, 107)], [], [], [(8, 14), (3, 104)], []]
    [(8, .pointer (some ⟨H, 0, none⟩)), (9, .pointer (some ⟨N, 0, none⟩)), (10, .pointer (some ⟨N + 1, 0, none⟩))]
    (nJ w it H N lw hg ea eb WA.heap.size P Q p q) (nR WA.heap.size) (nG WA.heap.size H (it.fx, it.fy, it.fz) ea (d1, d2, d3) eb (it.tx, it.ty, it.tz) (e1, e2, e3))
    (by kernel_rfl) (by kernel_rfl) (by kernel_rfl) (by kernel_rfl) ?_ ?_ ?_ ?_ ?_
  · intro p hp
    simp only [List.mem_cons, List.not_mem_nil, or_false] at hp
    rcases hp with rfl | rfl | rfl <;> rfl
  · intro i v w1 w2 hg hv
    unfold nG at hv ⊢
    split at hv
    all_goals first
      | exact hv
      | (obtain ⟨b, h1, h2, h3⟩ := hv; exact ⟨b, h1, h2, hg.2 b h2 h3⟩)
  · exact ⟨HZA.out.drew, Nat.le_refl _, HPA.out.drew, HQA.out.drew⟩
  · simp only [EachOp]
    refine ⟨fun _ => ?_, fun _ => ?_, fun _ => ?_, fun _ => ?_, fun _ => ?_, fun _ => ?_, fun _ => ?_, fun _ => ?_, fun _ => ?_, fun _ => ?_, fun _ => ?_, fun h => absurd rfl h, trivial⟩
    all_goals intro a1 w1 hJ hA hd; have HJ := Lib.hid hJ; clear hJ; simp only [List.getD_cons_zero, List.getD_cons_succ, List.mem_cons, List.not_mem_nil, or_false, forall_eq_or_imp, forall_eq] at hA hd; obtain ⟨k8, k9, k10⟩ := hA
    · clear hd k9 k10
      have k8 : a1.tmps[8]?.getD undef = .pointer (some ⟨H, 0, none⟩) := k8
      go_simp
      exact ⟨_, rfl, nR_refl _ _, HJ.out, rfl⟩
    · clear k8 k9 k10
      have h1 : a1.tmps[101]?.getD undef = .pointer (some ⟨H, 2, none⟩) := hd
      have x1 := HJ.out.1.i.c2
      have x2 := HJ.out.1.i.c3
      have x3 := HJ.out.1.i.c4
      clear hd
      go_simp
      exact ⟨_, rfl, nR_refl _ _, HJ.out, rfl⟩
    · clear hd k8 k10
      have k9 : a1.tmps[9]?.getD undef = .pointer (some ⟨N, 0, none⟩) := k9
      have x1 : w1.cell? ⟨N, 0, none⟩ = some (.int .i64 ea.1) := HJ.out.1.a.cell' 0 rfl
      have x2 : w1.cell? ⟨N, 1, none⟩ = some (.int .i64 ea.2.1) := HJ.out.1.a.cell' 1 rfl
      have x3 : w1.cell? ⟨N, 2, none⟩ = some (.int .i64 ea.2.2) := HJ.out.1.a.cell' 2 rfl
      go_simp
      exact ⟨_, rfl, nR_refl _ _, HJ.out, rfl⟩
    · clear k8 k9 k10
      obtain ⟨h1, h2⟩ := hd
      have h1 : a1.tmps[102]?.getD undef = .agg #[.int .i64 it.fx, .int .i64 it.fy, .int .i64 it.fz] := h1
      have h2 : a1.tmps[103]?.getD undef = .agg #[.int .i64 ea.1, .int .i64 ea.2.1, .int .i64 ea.2.2] := h2
      go_simp
      refine (HSD.out w1).mono ?_
      rintro e w2 ⟨rfl, b2⟩
      exact ⟨_, rfl, nR_below HJ.out.2.1 b2, HJ.out.below b2, rfl⟩
    · clear hd k8 k9
      have k10 : a1.tmps[10]?.getD undef = .pointer (some ⟨N + 1, 0, none⟩) := k10
      have x1 : w1.cell? ⟨N + 1, 0, none⟩ = some (.int .i64 eb.1) := HJ.out.1.b.cell' 0 rfl
      have x2 : w1.cell? ⟨N + 1, 1, none⟩ = some (.int .i64 eb.2.1) := HJ.out.1.b.cell' 1 rfl
      have x3 : w1.cell? ⟨N + 1, 2, none⟩ = some (.int .i64 eb.2.2) := HJ.out.1.b.cell' 2 rfl
      go_simp
      exact ⟨_, rfl, nR_refl _ _, HJ.out, rfl⟩
    · clear hd k9 k10
      have k8 : a1.tmps[8]?.getD undef = .pointer (some ⟨H, 0, none⟩) := k8
      go_simp
      exact ⟨_, rfl, nR_refl _ _, HJ.out, rfl⟩
    · clear k8 k9 k10
      have h1 : a1.tmps[106]?.getD undef = .pointer (some ⟨H, 5, none⟩) := hd
      have x1 := HJ.out.1.i.c5
      have x2 := HJ.out.1.i.c6
      have x3 := HJ.out.1.i.c7
      clear hd
      go_simp
      exact ⟨_, rfl, nR_refl _ _, HJ.out, rfl⟩
    · clear k8 k9 k10
      obtain ⟨h1, h2⟩ := hd
      have h1 : a1.tmps[105]?.getD undef = .agg #[.int .i64 eb.1, .int .i64 eb.2.1, .int .i64 eb.2.2] := h1
      have h2 : a1.tmps[107]?.getD undef = .agg #[.int .i64 it.tx, .int .i64 it.ty, .int .i64 it.tz] := h2
      go_simp
      refine (HSE.out w1).mono ?_
      rintro e w2 ⟨rfl, b2⟩
      exact ⟨_, rfl, nR_below HJ.out.2.1 b2, HJ.out.below b2, rfl⟩
    · clear k8 k9 k10 hd
      go_simp
      exact ⟨_, rfl, nR_below HJ.out.2.1 ((Below.refl _ _).alloc (Nat.le_refl _) _), HJ.out.below ((Below.refl _ _).alloc (Nat.le_refl _) _), w1.heap.size, rfl, HJ.out.2.1, 0, 0, 0, ⟨Int.le_refl _, Int.le_refl _, Int.le_refl _⟩, Blk.new _ _ _⟩
    · clear k8 k9 k10 hd
      go_simp
      exact ⟨_, rfl, nR_below HJ.out.2.1 ((Below.refl _ _).alloc (Nat.le_refl _) _), HJ.out.below ((Below.refl _ _).alloc (Nat.le_refl _) _), w1.heap.size, rfl, HJ.out.2.1, 0, 0, 0, ⟨Int.le_refl _, Int.le_refl _, Int.le_refl _⟩, Blk.new _ _ _⟩
    · clear k8 k9 k10
      obtain ⟨⟨b, h1, h2, x, y, z, h3, h4⟩, h5⟩ := hd
      have h1 : a1.tmps[14]?.getD undef = .pointer (some ⟨b, 0, none⟩) := h1
      have h5 : a1.tmps[104]?.getD undef = .agg #[.int .i64 d1, .int .i64 d2, .int .i64 d3] := h5
      have x1 : w1.cell? ⟨b, 0, none⟩ = some (.int .i64 x) := h4.cell' 0 rfl
      have x2 : w1.cell? ⟨b, 1, none⟩ = some (.int .i64 y) := h4.cell' 1 rfl
      have x3 : w1.cell? ⟨b, 2, none⟩ = some (.int .i64 z) := h4.cell' 2 rfl
      have y1 := h4.frozen 0
      have y2 := h4.frozen 1
      have y3 := h4.frozen 2
      have H4 := Lib.hid h4
      clear h3 h4
      go_simp
      exact ⟨nR_set h2 HND.out H4.out, HJ.out.set h2 q0A q1A q2A q3A q4A _ _ _, undef, trivial⟩
  intro vs w1 hJ hG
  obtain ⟨bd, f1, f2, f3⟩ := hG (8, 14) (by simp)
  obtain ⟨be, g1, g2, g3⟩ := hG (9, 15) (by simp)
  have k7 := hG (7, 108) (by simp)
  clear hG
  simp only [nG] at k7
  simp only at f1 g1
  refine ⟨?_⟩
  simp only [AtOp, List.foldl_cons, List.foldl_nil]
  rw [k7, f1, g1]
  simp only [Act.put, List.setIfInBounds_toArray, List.set_cons_zero, List.set_cons_succ]
  have f4 := (nR_set (u0 := e1) (u1 := e2) (u2 := e3) g2 HNE.out g3.choose_spec.choose_spec.choose_spec.2).2 bd f2 f3
  have g4 := (nR_set (u0 := e1) (u1 := e2) (u2 := e3) g2 HNE.out g3.choose_spec.choose_spec.choose_spec.2).2 be g2 g3
  obtain ⟨x, y, z, g5, g6⟩ := g3
  have x1 : w1.cell? ⟨be, 0, none⟩ = some (.int .i64 x) := g6.cell' 0 rfl
  have x2 : w1.cell? ⟨be, 1, none⟩ = some (.int .i64 y) := g6.cell' 1 rfl
  have x3 : w1.cell? ⟨be, 2, none⟩ = some (.int .i64 z) := g6.cell' 2 rfl
  have y1 := g6.frozen 0
  have y2 := g6.frozen 1
  have y3 := g6.frozen 2
  have F4 := Lib.hid f4
  have G4 := Lib.hid g4
  have HJ := Lib.hid (hJ.set g2 q0A q1A q2A q3A q4A (.int .i64 e1) (.int .i64 e2) (.int .i64 e3))
  clear k7 f1 g1 f3 f4 g4 g5 g6 hJ
  go_simp
  refine on_told (fun W => nJ w it H N lw hg ea eb WA.heap.size P Q p q W ∧ NN W bd ∧ NN W be) ⟨HJ.out, F4.out, G4.out⟩ ?_
  clear x1 x2 x3 y1 y2 y3 F4 G4 HJ
  rintro WB ⟨hjb, hnd, hne⟩
  have HJB := Lib.hid hjb
  have HNDB := Lib.hid hnd
  have HNEB := Lib.hid hne
  clear hjb hnd hne
  go_wp2_with fail
  refine (awake_true _ (HE0.out.below HJB.out.1.bel hlow)).mono ?_
  rintro e WC ⟨rfl, bC⟩
  have HJC := Lib.hid (HJB.out.below bC)
  have HNDC := Lib.hid (HNDB.out.below bC)
  have HNEC := Lib.hid (HNEB.out.below bC)
  have AC := Lib.hid HJC.out.1.i
  clear bC HJB HNDB HNEB
  have lP := HJC.out.2.2.1.lt
  have lQ := HJC.out.2.2.2.lt
  have p1 : WC.cell? ⟨P, 0, none⟩ = some (.int .i64 p.1) := HJC.out.2.2.1.cell' 0 rfl
  have p2 : WC.cell? ⟨P, 1, none⟩ = some (.int .i64 p.2.1) := HJC.out.2.2.1.cell' 1 rfl
  have p3 : WC.cell? ⟨P, 2, none⟩ = some (.int .i64 p.2.2) := HJC.out.2.2.1.cell' 2 rfl
  have q1 : WC.cell? ⟨Q, 0, none⟩ = some (.int .i64 q.1) := HJC.out.2.2.2.cell' 0 rfl
  have q2 : WC.cell? ⟨Q, 1, none⟩ = some (.int .i64 q.2.1) := HJC.out.2.2.2.cell' 1 rfl
  have q3 : WC.cell? ⟨Q, 2, none⟩ = some (.int .i64 q.2.2) := HJC.out.2.2.2.cell' 2 rfl
  have ko := cout_any (some ⟨WC.heap.size, 0, none⟩) 1 [it] p q (WC.alloc (.cells (itA it) 25)) (its_one (ItAt.new WC it)) (by show 1 ≤ 9223372036854775807; omega)
  rw [outL_one HVL.out HMT.out HEC.out, HC.out] at ko
  have ko2 : Calls Tryd.prog 29 #[.slice (some ⟨WC.heap.size, 0, none⟩) 1 1, .agg #[.int .i64 p.1, .int .i64 p.2.1, .int .i64 p.2.2], .agg #[.int .i64 q.1, .int .i64 q.2.1, .int .i64 q.2.2]] (WC.alloc (.cells (itA it) 25)) fun e w' => e = .returned (.int .i64 (-1)) ∧ Below (WC.alloc (.cells (itA it) 25)).heap.size (WC.alloc (.cells (itA it) 25)) w' := ko
  have KO := Lib.hid ko2
  clear ko ko2
  go_wp2_with (first
    | ((with_reducible refine gd_item 25 (.tmp 8) H it (by with_unfolding_all rfl) rfl AC.out Tryd.underlying25 (by with_unfolding_all rfl) (by with_unfolding_all kernel_rfl) ?_))
    | ((with_reducible refine gd_it1 (.tmp 111) it rfl (by with_unfolding_all rfl) ?_)))
  refine KO.out.mono ?_
  rintro e WD ⟨rfl, bD⟩
  have bCD : Below WC.heap.size WC WD := ((Below.refl _ WC).alloc (Nat.le_refl _) _).trans (bD.mono (by simp))
  have HJD := Lib.hid (HJC.out.below bCD)
  have HNDD := Lib.hid (HNDC.out.below bCD)
  have HNED := Lib.hid (HNEC.out.below bCD)
  have AD := Lib.hid HJD.out.1.i
  clear AC bD bCD HJC HNDC HNEC p1 p2 p3 q1 q2 q3 lP lQ KO
  have lA := HJD.out.1.a.lt
  have lB := HJD.out.1.b.lt
  have a1 : WD.cell? ⟨N, 0, none⟩ = some (.int .i64 ea.1) := HJD.out.1.a.cell' 0 rfl
  have a2 : WD.cell? ⟨N, 1, none⟩ = some (.int .i64 ea.2.1) := HJD.out.1.a.cell' 1 rfl
  have a3 : WD.cell? ⟨N, 2, none⟩ = some (.int .i64 ea.2.2) := HJD.out.1.a.cell' 2 rfl
  have b1 : WD.cell? ⟨N + 1, 0, none⟩ = some (.int .i64 eb.1) := HJD.out.1.b.cell' 0 rfl
  have b2 : WD.cell? ⟨N + 1, 1, none⟩ = some (.int .i64 eb.2.1) := HJD.out.1.b.cell' 1 rfl
  have b3 : WD.cell? ⟨N + 1, 2, none⟩ = some (.int .i64 eb.2.2) := HJD.out.1.b.cell' 2 rfl
  have ko := cout_any (some ⟨WD.heap.size, 0, none⟩) 1 [it] ea eb (WD.alloc (.cells (itA it) 25)) (its_one (ItAt.new WD it)) (by show 1 ≤ 9223372036854775807; omega)
  rw [outL_one HVL.out HMT.out HEC.out, cmpO_self] at ko
  have ko2 : Calls Tryd.prog 29 #[.slice (some ⟨WD.heap.size, 0, none⟩) 1 1, .agg #[.int .i64 ea.1, .int .i64 ea.2.1, .int .i64 ea.2.2], .agg #[.int .i64 eb.1, .int .i64 eb.2.1, .int .i64 eb.2.2]] (WD.alloc (.cells (itA it) 25)) fun e w' => e = .returned (.int .i64 (-1)) ∧ Below (WD.alloc (.cells (itA it) 25)).heap.size (WD.alloc (.cells (itA it) 25)) w' := ko
  have KO := Lib.hid ko2
  clear ko ko2
  go_wp2_with (first
    | ((with_reducible refine gd_item 25 (.tmp 8) H it (by with_unfolding_all rfl) rfl AD.out Tryd.underlying25 (by with_unfolding_all rfl) (by with_unfolding_all kernel_rfl) ?_))
    | ((with_reducible refine gd_it1 (.tmp 121) it rfl (by with_unfolding_all rfl) ?_)))
  refine KO.out.mono ?_
  rintro e WE ⟨rfl, bE⟩
  have bDE : Below WD.heap.size WD WE := ((Below.refl _ WD).alloc (Nat.le_refl _) _).trans (bE.mono (by simp))
  have BEL := Lib.hid (HJD.out.below bDE).1.bel
  obtain ⟨n1, n2, n3, ⟨m1, m2, m3⟩, hn⟩ := HNDD.out.below bDE
  obtain ⟨n4, n5, n6, ⟨m4, m5, m6⟩, hn'⟩ := HNED.out.below bDE
  have x1 : WE.cell? ⟨bd, 0, none⟩ = some (.int .i64 n1) := hn.cell' 0 rfl
  have x2 : WE.cell? ⟨bd, 1, none⟩ = some (.int .i64 n2) := hn.cell' 1 rfl
  have x3 : WE.cell? ⟨bd, 2, none⟩ = some (.int .i64 n3) := hn.cell' 2 rfl
  have y1 : WE.cell? ⟨be, 0, none⟩ = some (.int .i64 n4) := hn'.cell' 0 rfl
  have y2 : WE.cell? ⟨be, 1, none⟩ = some (.int .i64 n5) := hn'.cell' 1 rfl
  have y3 : WE.cell? ⟨be, 2, none⟩ = some (.int .i64 n6) := hn'.cell' 2 rfl
  have r1 : decide (0 ≤ n1) = true := decide_eq_true m1
  have r2 : decide (0 ≤ n2) = true := decide_eq_true m2
  have r3 : decide (0 ≤ n3) = true := decide_eq_true m3
  have r4 : decide (0 ≤ n4) = true := decide_eq_true m4
  have r5 : decide (0 ≤ n5) = true := decide_eq_true m5
  have r6 : decide (0 ≤ n6) = true := decide_eq_true m6
  clear AD bE bDE HJD HNDD HNED a1 a2 a3 b1 b2 b3 lA lB KO hn hn' m1 m2 m3 m4 m5 m6
  go_wp2_with fail
  go_ret
  exact ⟨rfl, BEL.out⟩
theorem vec_leaves {W : World} {l : List Value} (hl : Leaves W vecKs l) : ∃ x y z : Int, l = [.int .i64 x, .int .i64 y, .int .i64 z] := by
  have hlen := hl.len
  unfold vecKs at hl hlen
  match l, hl, hlen with
  | [v0, v1, v2], hl, _ =>
    obtain ⟨h0, h1, h2, _⟩ := hl
    cases h0; cases h1; cases h2
    exact ⟨_, _, _, rfl⟩
theorem lboxes_card (a0 : Option Addr) (len0 cap0 : Nat) (z0 : List Int) (c1 c2 : List Value) (w : World) (hE : Env w) (w0 : IsRow .i64 w a0 len0 cap0 z0) (hn : len0 ≤ 9223372036854775807) (w1 : Leaves w vecKs c1) (w2 : Leaves w vecKs c2) :
    Calls Tryd.prog 8 #[.slice a0 len0 cap0, .agg c1.toArray, .agg c2.toArray] w fun e w' => e = .returned (.bool true) ∧ Below w.heap.size w w' := by
  obtain ⟨l1, l2, l3, rfl⟩ := vec_leaves w1
  obtain ⟨h1, h2, h3, rfl⟩ := vec_leaves w2
  exact lboxes_walk a0 len0 cap0 z0 l1 l2 l3 h1 h2 h3 w hE w0 hn
end Go.Proofs.YtefdjdipbnnoaaaDoor

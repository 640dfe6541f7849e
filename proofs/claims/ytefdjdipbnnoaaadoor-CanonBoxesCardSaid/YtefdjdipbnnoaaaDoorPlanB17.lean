/-
  Plain: the extent of a valid motion holds its ends, and stays near. No program.
-/
import Derived.Test.YtefdjdipbnnoaaaDoorCOut17
namespace Go.Proofs.YtefdjdipbnnoaaaDoor
open Go Go.RowKit
set_option linter.unusedVariables false

def B24 (x : Int) : Prop := -16777216 ≤ x ∧ x ≤ 16777216
def BV (p : V3) : Prop := B24 p.1 ∧ B24 p.2.1 ∧ B24 p.2.2
/-- A box that holds two points, near. -/
structure HoldsB (p q : V3) (e : V3 × V3) : Prop where
  lo1 : e.1.1 ≤ p.1
  lo2 : e.1.2.1 ≤ p.2.1
  lo3 : e.1.2.2 ≤ p.2.2
  hi1 : q.1 ≤ e.2.1
  hi2 : q.2.1 ≤ e.2.2.1
  hi3 : q.2.2 ≤ e.2.2.2
  b1 : BV e.1
  b2 : BV e.2
theorem mnI_le1 (x y : Int) : mnI x y ≤ x := by unfold mnI; split <;> omega
theorem mnI_le2 (x y : Int) : mnI x y ≤ y := by unfold mnI; split <;> omega
theorem mxI_ge1 (x y : Int) : x ≤ mxI x y := by unfold mxI; split <;> omega
theorem mxI_ge2 (x y : Int) : y ≤ mxI x y := by unfold mxI; split <;> omega
theorem B24.mn {x y : Int} (h : B24 x) (h' : B24 y) : B24 (mnI x y) := by unfold mnI; split <;> assumption
theorem B24.mx {x y : Int} (h : B24 x) (h' : B24 y) : B24 (mxI x y) := by unfold mxI; split <;> assumption
theorem HoldsB.step {p q : V3} {e : V3 × V3} (h : HoldsB p q e) {t : V3} (ht : BV t) : HoldsB p q (boxLo e.1 t, boxHi e.2 t) :=
  ⟨Int.le_trans (mnI_le1 _ _) h.lo1, Int.le_trans (mnI_le1 _ _) h.lo2, Int.le_trans (mnI_le1 _ _) h.lo3, Int.le_trans h.hi1 (mxI_ge1 _ _), Int.le_trans h.hi2 (mxI_ge1 _ _), Int.le_trans h.hi3 (mxI_ge1 _ _),
   ⟨h.b1.1.mn ht.1, h.b1.2.1.mn ht.2.1, h.b1.2.2.mn ht.2.2⟩, ⟨h.b2.1.mx ht.1, h.b2.2.1.mx ht.2.1, h.b2.2.2.mx ht.2.2⟩⟩
theorem withB_bv {x y z : Int} (h : withB x y z = true) : B24 x ∧ B24 y ∧ B24 z := by
  unfold withB at h
  simp only [Bool.and_eq_true] at h
  obtain ⟨⟨h1, h2⟩, h3⟩ := h
  have := insB_true h1
  have := insB_true h2
  have := insB_true h3
  unfold B24
  omega
theorem valid_with {i : It} (h : validI i = true) (hm : motK i.kind = true) : withB i.fx i.fy i.fz = true ∧ withB i.tx i.ty i.tz = true := by
  unfold validI at h
  rw [hm] at h
  unfold motionB at h
  simp only [if_true, Bool.and_eq_true] at h
  exact ⟨h.2.1, h.2.2.1⟩
theorem so_bv {pl u v h : Int} (hu : B24 u) (hv : B24 v) (hh : B24 h) : BV (soX pl u v h, soY pl u v h, soZ pl u v h) := by
  have h0 : B24 0 := by unfold B24; omega
  refine ⟨?_, ?_, ?_⟩
  · show B24 (soX pl u v h)
    unfold soX
    split
    · exact hu
    · split
      · exact hv
      · split <;> assumption
  · show B24 (soY pl u v h)
    unfold soY
    split
    · exact hv
    · split
      · exact hh
      · split <;> assumption
  · show B24 (soZ pl u v h)
    unfold soZ
    split
    · exact hh
    · split
      · exact hu
      · split <;> assumption
theorem flH_b {p x y z : Int} (h : withB x y z = true) : B24 (flH p x y z) := by
  have h0 : B24 0 := by unfold B24; omega
  obtain ⟨h1, h2, h3⟩ := withB_bv h
  unfold flH
  split
  · assumption
  · split
    · assumption
    · split <;> assumption
theorem extR_le {i : It} (h : arcArg i = true) : extR i ≤ 8388608 := by
  unfold arcArg at h
  simp only [Bool.and_eq_true, decide_eq_true_eq] at h
  obtain ⟨_, _, hwf, hwt, hwc, _, _⟩ := h
  have bf := fl_bd (p := i.plane) hwf
  have bt := fl_bd (p := i.plane) hwt
  have bc := fl_bd (p := i.plane) hwc
  have b1 : -1048576 ≤ i.fU ∧ i.fU ≤ 1048576 := bf.1
  have b2 : -1048576 ≤ i.fW ∧ i.fW ≤ 1048576 := bf.2
  have b3 : -1048576 ≤ i.tU ∧ i.tU ≤ 1048576 := bt.1
  have b4 : -1048576 ≤ i.tW ∧ i.tW ≤ 1048576 := bt.2
  have b5 : -1048576 ≤ i.cU ∧ i.cU ≤ 1048576 := bc.1
  have b6 : -1048576 ≤ i.cW ∧ i.cW ≤ 1048576 := bc.2
  have e1 : wS i.fU i.cU = i.fU - i.cU := wS_eq (by omega)
  have e2 : wS i.fW i.cW = i.fW - i.cW := wS_eq (by omega)
  have e3 : wS i.tU i.cU = i.tU - i.cU := wS_eq (by omega)
  have e4 : wS i.tW i.cW = i.tW - i.cW := wS_eq (by omega)
  have n1 := inn_self (wS i.fU i.cU) (wS i.fW i.cW) (by omega) (by omega)
  have n2 := inn_self (wS i.tU i.cU) (wS i.tW i.cW) (by omega) (by omega)
  unfold extR
  refine upR_le ?_
  have : mxI (inn (wS i.fU i.cU) (wS i.fW i.cW) (wS i.fU i.cU) (wS i.fW i.cW)) (inn (wS i.tU i.cU) (wS i.tW i.cW) (wS i.tU i.cU) (wS i.tW i.cW)) ≤ 35184372088832 := by unfold mxI; split <;> omega
  omega
theorem ext_holds {i : It} (h : validI i = true) (hm : motK i.kind = true) : HoldsB i.from3 i.to3 (extI i) := by
  obtain ⟨hf, ht⟩ := valid_with h hm
  obtain ⟨f1, f2, f3⟩ := withB_bv hf
  obtain ⟨t1, t2, t3⟩ := withB_bv ht
  have h0 : HoldsB i.from3 i.to3 (boxLo i.from3 i.to3, boxHi i.from3 i.to3) :=
    ⟨mnI_le1 _ _, mnI_le1 _ _, mnI_le1 _ _, mxI_ge2 _ _, mxI_ge2 _ _, mxI_ge2 _ _, ⟨f1.mn t1, f2.mn t2, f3.mn t3⟩, ⟨f1.mx t1, f2.mx t2, f3.mx t3⟩⟩
  unfold extI
  split
  · rename_i hk
    have ha := valid_arcArg h hk
    have hr := extR_le ha
    have hc : withB i.cx i.cy i.cz = true := by
      unfold arcArg at ha
      simp only [Bool.and_eq_true] at ha
      exact ha.2.2.2.2.1
    have bc := fl_bd (p := i.plane) hc
    have b5 : -1048576 ≤ i.cU ∧ i.cU ≤ 1048576 := bc.1
    have b6 : -1048576 ≤ i.cW ∧ i.cW ≤ 1048576 := bc.2
    have hch : B24 i.cH := flH_b hc
    obtain ⟨r, hre⟩ : ∃ r : Int, ((extR i : Nat) : Int) = r := ⟨_, rfl⟩
    have hr1 : 0 ≤ r ∧ r ≤ 8388608 := by omega
    rw [hre]
    have hp : ∀ d ∈ dirL, BV (extP i r d) := by
      intro d hd
      have hd1 : (-1 ≤ d.1 ∧ d.1 ≤ 1) ∧ (-1 ≤ d.2 ∧ d.2 ≤ 1) := by
        simp only [dirL, List.mem_cons, List.not_mem_nil, or_false] at hd
        rcases hd with rfl | rfl | rfl | rfl <;> decide
      have m1 := mul_bd (B := 8388608) (by decide) (show -8388608 ≤ r ∧ r ≤ 8388608 by omega) (show -8388608 ≤ d.1 ∧ d.1 ≤ 8388608 by omega)
      have k1 : -8388608 ≤ r * d.1 ∧ r * d.1 ≤ 8388608 := by
        have : d.1 = -1 ∨ d.1 = 0 ∨ d.1 = 1 := by omega
        rcases this with e | e | e <;> rw [e] <;> omega
      have k2 : -8388608 ≤ r * d.2 ∧ r * d.2 ≤ 8388608 := by
        have : d.2 = -1 ∨ d.2 = 0 ∨ d.2 = 1 := by omega
        rcases this with e | e | e <;> rw [e] <;> omega
      exact so_bv (by unfold B24; omega) (by unfold B24; omega) hch
    have hall : ∀ (l : List (Int × Int)) (e : V3 × V3), (∀ d ∈ l, BV (extP i r d)) → HoldsB i.from3 i.to3 e → HoldsB i.from3 i.to3 (l.foldl (extS i r) e) := by
      intro l
      induction l with
      | nil => intro e _ he; exact he
      | cons d l ih =>
        intro e hl he
        refine ih _ (fun d' hd' => hl d' (List.mem_cons_of_mem _ hd')) ?_
        unfold extS
        split
        · exact he.step (hl d (List.mem_cons_self ..))
        · exact he
    exact hall dirL _ hp h0
  · exact h0
end Go.Proofs.YtefdjdipbnnoaaaDoor

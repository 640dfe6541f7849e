/-
  Items in memory; canon.Check and its plain form. Any list.
-/
import Derived.Test.YtefdjdipbnnoaaaDoorPlanV17
import Derived.Test.YtefdjdipbnnoaaaDoorHeldM
namespace Go.Proofs.YtefdjdipbnnoaaaDoor
open Go Go.RowKit
set_option linter.unusedVariables false
set_option linter.unusedSimpArgs false

theorem itA_len (i : It) : (itA i).toList.length = 22 := rfl
/-- The items lie in memory. -/
def ItsAt (W : World) (a : Option Addr) (l : List It) : Prop := ∀ i t, l[i]? = some t → ∃ b o, a = some ⟨b, o, none⟩ ∧ b < W.heap.size ∧ ∀ j v, (itA t).toList[j]? = some v → W.cell? ⟨b, o + i * 22 + j, none⟩ = some v
theorem ItsAt.below {W W' : World} {a : Option Addr} {l : List It} (h : ItsAt W a l) (hb : Below W.heap.size W W') : ItsAt W' a l := fun i t hi => by
  obtain ⟨b, o, e, hl, hc⟩ := h i t hi
  exact ⟨b, o, e, by have := hb.size; omega, fun j v hv => (hb.cell (p := ⟨b, o + i * 22 + j, none⟩) hl).trans (hc j v hv)⟩
theorem ItsAt.nil (W : World) (a : Option Addr) : ItsAt W a [] := fun i t hi => by simp at hi
def itsC : List It → List Value
  | [] => []
  | t :: l => (itA t).toList ++ itsC l
theorem itsC_append : ∀ (l m : List It), itsC (l ++ m) = itsC l ++ itsC m
  | [], m => rfl
  | t :: l, m => by simp [itsC, itsC_append l m]
theorem itsC_snoc (l : List It) (t : It) : itsC (l ++ [t]) = itsC l ++ (itA t).toList := by rw [itsC_append]; simp [itsC]
theorem itsC_length : ∀ (l : List It), (itsC l).length = l.length * 22
  | [] => rfl
  | t :: l => by simp [itsC, itsC_length l, itA_size]; omega
theorem itsC_at : ∀ (l : List It) (i j : Nat) (t : It), l[i]? = some t → j < 22 → (itsC l)[i * 22 + j]? = (itA t).toList[j]?
  | [], i, j, t, h, _ => by simp at h
  | x :: l, 0, j, t, h, hj => by
    obtain rfl : x = t := by simpa using h
    simp only [itsC, Nat.zero_mul, Nat.zero_add]
    rw [List.getElem?_append_left (by rw [itA_len]; exact hj)]
  | x :: l, i + 1, j, t, h, hj => by
    have := itsC_at l i j t (by simpa using h) hj
    simp only [itsC]
    rw [List.getElem?_append_right (by rw [itA_len]; omega), itA_len, ← this]
    congr 1
    omega
theorem its_own {W : World} {base : Nat} {v : Value} {l : List It} (h : W.ownsRow base 25 22 v l.length (itsC l)) : ∃ a c, v = .slice a l.length c ∧ ItsAt W a l ∧ (a = none → l.length = 0 ∧ c = 0) := by
  rcases h.2 with ⟨rfl, e⟩ | ⟨g, cap, cur, rfl, hb, _⟩
  · refine ⟨none, 0, by rw [e], fun i t hi => ?_, fun _ => ⟨e, rfl⟩⟩
    have := (List.getElem?_eq_some_iff.1 hi).1
    omega
  · refine ⟨_, _, rfl, fun i t hi => ⟨g, 0, rfl, (h.lt g rfl).2, fun j v hv => ?_⟩, fun e => by cases e⟩
    have hlt := (List.getElem?_eq_some_iff.1 hi).1
    have hj : j < 22 := (List.getElem?_eq_some_iff.1 hv).1
    rw [Nat.zero_add, h.cellAt _ (by omega), itsC_at l i j t hi hj]
    exact hv
def itKinds : List Kind := [.int .i64, .int .i64, .int .i64, .int .i64, .int .i64, .int .i64, .int .i64, .int .i64, .int .i64, .int .i64, .int .i64, .int .i64, .int .i64, .bool, .int .i64, .bool, .int .i64, .int .i64, .int .i64, .int .i64, .int .i64, .bool]
theorem it_leaves {W : World} {l : List Value} (hl : Leaves W itKinds l) : ∃ t : It, l = (itA t).toList := by
  have hlen := hl.len
  unfold itKinds at hl hlen
  match l, hl, hlen with
  | [v0, v1, v2, v3, v4, v5, v6, v7, v8, v9, v10, v11, v12, v13, v14, v15, v16, v17, v18, v19, v20, v21], hl, _ =>
    obtain ⟨h0, h1, h2, h3, h4, h5, h6, h7, h8, h9, h10, h11, h12, h13, h14, h15, h16, h17, h18, h19, h20, h21, _⟩ := hl
    cases h0; cases h1; cases h2; cases h3; cases h4; cases h5; cases h6; cases h7; cases h8; cases h9; cases h10; cases h11; cases h12; cases h13; cases h14; cases h15; cases h16; cases h17; cases h18; cases h19; cases h20; cases h21
    exact ⟨⟨_, _, _, _, _, _, _, _, _, _, _, _, _, _, _, _, _, _, _, _, _, _⟩, rfl⟩
/-- A list that came in. -/
theorem its_tab {W : World} {a : Option Addr} {len cap : Nat} (h : Leaf W (.tab itKinds) (.slice a len cap)) : ∃ l : List It, l.length = len ∧ ItsAt W a l ∧ len ≤ 9223372036854775807 := by
  obtain ⟨f, hT, hL, hmax, _⟩ := TabAt.of_leaf (C := 22) h rfl (by omega)
  have hev : ∀ i, i < len → ∃ e : It, f i = (itA e).toList := fun i hi => it_leaves (hL i hi)
  have hch : ∃ g : Nat → It, ∀ i, i < len → f i = (itA (g i)).toList := by
    refine ⟨fun i => if hi : i < len then Classical.choose (hev i hi) else ⟨0, 0, 0, 0, 0, 0, 0, 0, 0, 0, 0, 0, 0, false, 0, false, 0, 0, 0, 0, 0, false⟩, fun i hi => ?_⟩
    simp only [hi, dif_pos]
    exact Classical.choose_spec (hev i hi)
  obtain ⟨g, hg⟩ := hch
  refine ⟨(List.range len).map g, by simp, fun i t hi => ?_, hmax⟩
  obtain ⟨hil, e⟩ := List.getElem?_eq_some_iff.1 hi
  simp at hil e
  obtain ⟨_, b, o, ea, hlt, hc⟩ := hT i hil
  refine ⟨b, o, ea, hlt, fun j v hv => ?_⟩
  have hj : j < 22 := (List.getElem?_eq_some_iff.1 hv).1
  rw [hc j hj, hg i hil, e]
  exact hv
section
variable {ops : Array Oper} {rest : List Oper} {a : Act} {w : World} {Q : Exit → Act → World → Prop} {dst : Option Tmp} {ty0 : TypeId} {pos : String} {after : Array Edge}
/-- An item of a list is read. -/
theorem go_loadM (x : Operand) (b o : Nat) (i : It) (hx : a.eval x = .pointer (some ⟨b, o, none⟩)) (hI : ∀ j v, (itA i).toList[j]? = some v → w.cell? ⟨b, o + j, none⟩ = some v) (h : wpList Tryd.prog ops Q rest (a.put dst (.agg (itA i))) w) : wpList Tryd.prog ops Q (⟨dst, .load 25 x, ty0, pos, after, none⟩ :: rest) a w :=
  wpList_load_mid rfl 25 x rfl b o hx (itA i).toList _ (fun j v hv => hI j v hv) Tryd.underlying25 rfl (by kernel_rfl) (by simpa using h)
end
/-! ### The plain form of Check -/
abbrev V3 := Int × Int × Int
def It.from3 (i : It) : V3 := (i.fx, i.fy, i.fz)
def It.to3 (i : It) : V3 := (i.tx, i.ty, i.tz)
def chk : List It → Nat → Bool → Bool → V3 → Nat × Int
  | [], i, _, _, _ => (i, 0)
  | x :: l, i, en, mv, p => if validI x = false then (i, 1) else if en = true ∨ (motK x.kind = true ∧ mv = true ∧ x.from3 ≠ p) then (i, 13) else chk l (i + 1) (decide (x.kind = 14)) (mv || motK x.kind) (if motK x.kind then x.to3 else p)
/-- canon.Check. -/
def checkL (l : List It) : Nat × Int := if 20000 < l.length then (0, 10) else chk l 0 false false (0, 0, 0)
theorem chk_drop {l : List It} {k : Nat} {x : It} (h : l[k]? = some x) (en mv : Bool) (p : V3) : chk (l.drop k) k en mv p = if validI x = false then (k, 1) else if en = true ∨ (motK x.kind = true ∧ mv = true ∧ x.from3 ≠ p) then (k, 13) else chk (l.drop (k + 1)) (k + 1) (decide (x.kind = 14)) (mv || motK x.kind) (if motK x.kind then x.to3 else p) := by
  obtain ⟨hlt, e⟩ := List.getElem?_eq_some_iff.1 h
  rw [List.drop_eq_getElem_cons hlt, e]
  rfl
end Go.Proofs.YtefdjdipbnnoaaaDoor

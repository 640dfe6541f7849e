/-
  cncstage.Items: any tape.
-/
import Derived.Test.YtefdjdipbnnoaaaDoorStageD17
import Derived.Test.YtefdjdipbnnoaaaDoorRCheck17
namespace Go.Proofs.YtefdjdipbnnoaaaDoor
open Go Go.RowKit
set_option linter.unusedVariables false
set_option linter.unusedSimpArgs false

theorem infoIt : (Tryd.prog.info? 25).map (fun i => (i.zero, i.size, i.bytes)) = some (some (.agg (itA zeroI)), 22, 176) := by kernel_rfl
theorem it_fill (i : It) : Instr.fill (fun k => some (k * 22, 22)) ((Array.range (1 * 22)).map ((Value.agg (itA zeroI)).cells[· % (Value.agg (itA zeroI)).cells.size]!)) [(0, .agg (itA i))] = some (itA i) := by with_unfolding_all kernel_rfl
set_option maxRecDepth 100000 in
theorem go_it1 {ops : Array Oper} {rest : List Oper} {a : Act} {w : World} {Q : Exit → Act → World → Prop} {dst : Option Tmp} {ty0 : TypeId} {pos : String} {after : Array Edge} (x : Operand) (i : It) (hx : a.eval x = .agg (itA i))
    (h : wpList Tryd.prog ops Q rest (a.put dst (.slice (some ⟨w.heap.size, 0, none⟩) 1 1)) (w.alloc (.cells (itA i) 25))) : wpList Tryd.prog ops Q (⟨dst, .buildSlice 37 1 #[(0, x)], ty0, pos, after, none⟩ :: rest) a w := by
  obtain ⟨i0, hi, hz0, hz1, hz2⟩ := info_parts infoIt
  refine go_buildSlice 37 25 1 _ (itA i) i0 _ Tryd.underlying37 hi hz0 (by rw [hz1]; decide) (by rw [hz1]; decide) ?_ h
  rw [hz1]
  simp only [List.map_toArray, List.map_cons, List.map_nil, hx]
  exact it_fill _
theorem it_one (i : It) : ∀ u ∈ (itA i).toList, u.oneCell' = true := by
  intro u hu
  have := Array.all_eq_true_iff_forall_mem.1 (itA_one i)
  exact this u (by simpa using hu)
/-- append of one item that lies in a block of its own. -/
theorem go_itapp {ops : Array Oper} {rest : List Oper} {a : Act} {w : World} {Q : Exit → Act → World → Prop} {dst : Option Tmp} {ty0 : TypeId} {pos : String} {after : Array Edge} (x y : Operand) {base : Nat} {v : Value} (ts : List It) (t : It) (g : Nat)
    (hx : a.eval x = v) (hown : w.ownsRow base 25 22 v ts.length (itsC ts)) (hy : a.eval y = .slice (some ⟨g, 0, none⟩) 1 1) (hg : ItAt w g t) (hn : ts.length ≤ 1000000) (hb : base ≤ w.heap.size)
    (h : ∀ v' w', w'.ownsRow base 25 22 v' (ts ++ [t]).length (itsC (ts ++ [t])) → w.grownBy w' v.ownBlock → wpList Tryd.prog ops Q rest (a.put dst v') w') : wpList Tryd.prog ops Q (⟨dst, .call { callee := .builtin .append, args := #[x, y], argTypes := #[37, 37] }, ty0, pos, after, none⟩ :: rest) a w := by
  obtain ⟨i0, hi, hz0, hz1, hz2⟩ := info_parts infoIt
  refine wpList_append_lies w rfl x y 37 rfl base 25 i0 (.agg (itA zeroI)) 22 176 Tryd.underlying37 hi hz0 hz1 hz2 rfl (by decide) v ts.length (itsC ts) hx hown ⟨g, 0, none⟩ 1 1 (itA t).toList hy rfl ?_ (it_one t) (by omega) (by unfold maxLen; omega) (by omega) hb w.heap.size rfl ?_
  · intro j u hu
    rw [Addr.add_mid, Nat.zero_add, hg.cell]
    simpa using hu
  · intro g' c' w' hown' hgrow _ _
    rw [← itsC_snoc] at hown'
    have e : ts.length + 1 = (ts ++ [t]).length := by simp
    rw [e] at hown'
    have := h (.slice (some ⟨g', 0, none⟩) (ts ++ [t]).length c') w' hown' hgrow
    rw [← e] at this
    exact this
/-! ### Canonical lists -/
def walkAt (p : V3) : List It → V3
  | [] => p
  | x :: l => walkAt (if motK x.kind then x.to3 else p) l
/-- A canonical list without an end, whose first motion begins at p. -/
def Good (p : V3) : List It → Prop
  | [] => True
  | x :: l => validI x = true ∧ x.kind ≤ 13 ∧ (motK x.kind = true → x.from3 = p) ∧ Good (if motK x.kind then x.to3 else p) l
theorem walkAt_append (l m : List It) : ∀ p, walkAt p (l ++ m) = walkAt (walkAt p l) m := by
  induction l with
  | nil => intro p; rfl
  | cons x l ih => intro p; exact ih _
theorem Good_append (l m : List It) : ∀ p, Good p (l ++ m) ↔ Good p l ∧ Good (walkAt p l) m := by
  induction l with
  | nil => intro p; simp [Good, walkAt]
  | cons x l ih =>
    intro p
    show (_ ∧ _ ∧ _ ∧ Good _ (l ++ m)) ↔ _
    rw [ih]
    show _ ↔ (_ ∧ _ ∧ _ ∧ Good _ l) ∧ Good (walkAt _ l) m
    constructor
    · rintro ⟨h1, h2, h3, h4, h5⟩
      exact ⟨⟨h1, h2, h3, h4⟩, h5⟩
    · rintro ⟨⟨h1, h2, h3, h4⟩, h5⟩
      exact ⟨h1, h2, h3, h4, h5⟩
theorem Good.snoc {p : V3} {l : List It} {x : It} (h : Good p l) (hv : validI x = true) (hk : x.kind ≤ 13) (hf : motK x.kind = true → x.from3 = walkAt p l) : Good p (l ++ [x]) := (Good_append l [x] p).2 ⟨h, hv, hk, hf, trivial⟩
def ItemsPost (B g : Nat) (a : Option Addr) (n c : Nat) (z : Nat → Int) (w : World) (e : Ending) (w' : World) : Prop :=
  ∃ v l p, e = .returned v ∧ Good p l ∧ l.length ≤ 8 ∧ w'.ownsRow w.heap.size 25 22 v l.length (itsC l) ∧ GI B g a n c z w w'
/-- What stands in a round. -/
structure IJ (B g : Nat) (a : Option Addr) (n c : Nat) (z : Nat → Int) (A : Nat) (p : V3) (v : Value) (l : List It) (w W : World) : Prop where
  gi : GI B g a n c z w W
  at' : Blk W A 23 (v3A p)
  own : W.ownsRow (A + 1) 25 22 v l.length (itsC l)
  base : w.heap.size ≤ A
section
variable {B g n c A : Nat} {a : Option Addr} {z : Nat → Int} {p : V3} {v : Value} {l : List It} {w W W' : World}
theorem IJ.alloc (h : IJ B g a n c z A p v l w W) (o : Obj) : IJ B g a n c z A p v l w (W.alloc o) := ⟨h.gi.alloc o, h.at'.alloc o, h.own.alloc o, h.base⟩
theorem IJ.next (h : IJ B g a n c z A p v l w W) (h' : GI B g a n c z W W') : IJ B g a n c z A p v l w W' :=
  ⟨h.gi.trans h', h.at'.grown h'.gr (by intro e; injection e; have := h.gi.lt; have := h.base; omega), own_grown h.own h'.gr (by intro k hk; injection hk; have := h.gi.lt; have := h.base; omega), h.base⟩
theorem IJ.below (h : IJ B g a n c z A p v l w W) (hb : Below W.heap.size W W') : IJ B g a n c z A p v l w W' := ⟨h.gi.below hb, h.at'.below hb h.at'.lt, own_grown h.own (grown_of_below hb) (by intro k hk; cases hk), h.base⟩
theorem IJ.row (h : IJ B g a n c z A p v l w W) {b : Nat} (hb : W.heap.size ≤ b + 1) (hA : A < b) (hv : v.ownBlock ≠ some b) (cs : Array Value) : IJ B g a n c z A p v l w (W.setRow b cs) :=
  ⟨h.gi.row (by have := h.base; omega) cs, h.at'.rowFar (by omega) cs, h.own.kept (grown_setRow (grown_refl W (some b)) (.inl rfl) cs) (.inr hv), h.base⟩
end
end Go.Proofs.YtefdjdipbnnoaaaDoor

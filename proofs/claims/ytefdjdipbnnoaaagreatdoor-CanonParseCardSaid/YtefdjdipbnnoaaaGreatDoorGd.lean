/-
  General lemmas that no program is named in: a guarded operation, the operation written out. No condition.
-/
import Derived.Test.YtefdjdipbnnoaaaGreatDoorBuild
namespace Go.Proofs.YtefdjdipbnnoaaaGreatDoor
open Go Go.RowKit
set_option linter.unusedVariables false

section
variable {P : Program} {ops : Array Oper} {rest : List Oper} {a : Act} {w : World} {Q : Exit → Act → World → Prop} {dst : Option Tmp} {ty0 : TypeId} {pos : String} {after : Array Edge} {gd : Nat × Bool}
theorem gd_of_wp {o : Oper} (hw : Region.wanted o (yielded ops a.tmps) = true) (h : ∀ K : Act → World → Prop, (∀ a w, wpList P ops Q rest a w → K a w) → o.wp P a w K Q) : wpList P ops Q (o :: rest) a w :=
  wpList_step fun K hK => by rw [if_pos hw]; exact h K hK
theorem gd_built (t : TypeId) (parts : Array (Nat × Operand)) (cells : Array Value) (hw : Region.wanted ⟨dst, .build t parts, ty0, pos, after, some gd⟩ (yielded ops a.tmps) = true)
    (hc : P.built t (parts.map fun (i, x) => (i, a.eval x)).toList = some cells) (h : wpList P ops Q rest (a.put dst (.agg cells)) w) : wpList P ops Q (⟨dst, .build t parts, ty0, pos, after, some gd⟩ :: rest) a w :=
  gd_of_wp hw fun K hK => wo_built t parts cells hc (hK _ _ h)
theorem gd_load_mid (ty : TypeId) (x : Operand) (g o : Nat) (cs : List Value) (d : TypeDesc) (hw : Region.wanted ⟨dst, .load ty x, ty0, pos, after, some gd⟩ (yielded ops a.tmps) = true) (hx : a.eval x = .pointer (some ⟨g, o, none⟩)) (hc : w.rangeAt g o cs)
    (hu : P.underlying ty = some d) (hd : d.isRow = true) (hi : (P.info? ty).map (·.size) = some cs.length) (h : wpList P ops Q rest (a.put dst (.agg cs.toArray)) w) : wpList P ops Q (⟨dst, .load ty x, ty0, pos, after, some gd⟩ :: rest) a w :=
  gd_of_wp hw fun K hK => wo_load_mid ty x g o cs d hx hc hu hd hi (hK _ _ h)
theorem gd_eql (t t' : TypeId) (x y : Operand) (xs ys : Array Value) (b : Bool) (hw : Region.wanted ⟨dst, .binOp .eql t x y t', ty0, pos, after, some gd⟩ (yielded ops a.tmps) = true) (hx : a.eval x = .agg xs) (hy : a.eval y = .agg ys)
    (hm : P.eqGuardType P.depth t = false) (hr : (binOp .eql t (.agg xs) (.agg ys)).run P w = .ok (.bool b) w) (h : wpList P ops Q rest (a.put dst (.bool b)) w) : wpList P ops Q (⟨dst, .binOp .eql t x y t', ty0, pos, after, some gd⟩ :: rest) a w :=
  gd_of_wp hw fun K hK => wo_binop .eql t t' x y (.bool b) (by simp only [hx, hy, Sem.run_bind, run_eqGuard_agg _ _ _ _ _ _ _ hm, Result.andThen_ok, hr]) (hK _ _ h)
end
end Go.Proofs.YtefdjdipbnnoaaaGreatDoor

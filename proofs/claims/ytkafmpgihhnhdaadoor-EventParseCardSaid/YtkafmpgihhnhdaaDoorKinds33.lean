/-
  event.kinds: the map from names to kinds; event.line: the event of a line. Any line.
-/
import Derived.Test.YtkafmpgihhnhdaaDoorNum33
import Derived.Carry
namespace Go.Proofs.YtkafmpgihhnhdaaDoor
open Go Go.RowKit
set_option linter.unusedVariables false

theorem go_load_fr {P : Program} {ops : Array Oper} {rest : List Oper} {a : Act} {w : World} {Q : Exit → Act → World → Prop} {dst : Option Tmp} {ty0 : TypeId} {pos : String} {after : Array Edge} (ty : TypeId) (x : Operand) (g : Nat) (t : TypeId) (fr : Nat × Nat) (cs : Array Value) (d : TypeDesc) (hx : a.eval x = .pointer (some ⟨g, 0, none⟩)) (hg : w.heap[g]? = some (.cells cs t fr))
    (hu : P.underlying ty = some d) (hd : (match d with | .struct _ | .array _ _ => true | _ => false) = true) (hi : (P.info? ty).map (·.size) = some cs.size)
    (h : wpList P ops Q rest (a.put dst (.agg cs)) w) : wpList P ops Q (⟨dst, .load ty x, ty0, pos, after, none⟩ :: rest) a w :=
  wpList_load_row rfl ty x rfl g hx t cs fr d hg hu hd hi h
attribute [local go_sem ↓] enm_run
set_option maxRecDepth 100000 in
theorem kinds_any (w : World) (hE : Env w) : Calls Tryd.prog 30 #[] w fun e w' => ∃ b, e = .returned (.map (some b)) ∧ KindAt w' b 13 ∧ w.heap.size ≤ b ∧ Below w.heap.size w w' := by
  obtain ⟨t, fr, hrow⟩ := hE.row
  have hlow := hE.low
  have h0 : (w.alloc (.map #[] 0)).heap[0]? = some (.cells enamesC t fr) := (Below.heap_alloc w _ 0 (by omega)).trans hrow
  have HR := Lib.hid h0
  have hmm := @run_makeMap Tryd.prog 58 w
  have HK := Lib.hid (KindAt.new w)
  have BEL := Lib.hid ((Below.refl w.heap.size w).alloc (Nat.le_refl _) (.map #[] 0))
  obtain ⟨w1, hw1⟩ : ∃ w1, w.alloc (.map #[] 0) = w1 := ⟨_, rfl⟩
  rw [hw1] at hmm HR HK BEL
  clear h0 hrow hE hw1
  go_enter Tryd.func30, Tryd.ntmps30
  go_wp2_with ((with_reducible refine go_load_fr 56 _ 0 t fr enamesC _ (by with_unfolding_all rfl) (by with_unfolding_all exact HR.out) Tryd.underlying56 (by with_unfolding_all rfl) (by with_unfolding_all exact info13) ?_))
  go_loopw [6] (fun s6 wr => ∃ i : Nat, i ≤ 13 ∧ s6 = .int .i64 i ∧ KindAt wr w.heap.size i ∧ Below w.heap.size w wr)
    (fun s6 _ => 13 - (intOf s6).toNat)
  case atStart => exact ⟨0, by omega, rfl, HK.out, BEL.out⟩
  case round =>
    obtain ⟨i, hi, rfl, hK, bel⟩ := hrel
    by_cases hlt : i < 13
    · have d1 : decide (i < 13) = true := by simpa using hlt
      have i0 : (0 : Int) ≤ (i : Int) := by omega
      have i1 : (i : Int) < 13 := by omega
      obtain ⟨W', hup, hK', hg⟩ := hK.store hlt Tryd.underlying9 Tryd.underlying58
      have bel' : Below w.heap.size w W' := bel.trans (below_of_grown hg bel.size (fun k e => by have := Option.some.inj e; omega))
      have FF := Lib.hid (And.intro hK' bel')
      clear hK hK' bel bel' hg HK BEL HR hmm
      go_wp2_with fail
      go_roundw
      case rel => exact ⟨i + 1, by omega, by go_num, FF.out.1, FF.out.2⟩
      case measure => simp [intOf]; omega
    · obtain rfl : i = 13 := by omega
      have d1 : decide (13 < 13) = false := by simp
      have FF := Lib.hid (And.intro hK bel)
      clear hK bel
      go_wp2_with fail
      go_ret
      exact ⟨_, rfl, FF.out.1, Nat.le_refl _, FF.out.2⟩
end Go.Proofs.YtkafmpgihhnhdaaDoor

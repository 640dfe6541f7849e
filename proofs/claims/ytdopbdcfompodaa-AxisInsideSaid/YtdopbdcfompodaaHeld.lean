/-
  General lemmas that no program is named in: a region that draws its order, whose operations only read and whose callees keep what 'S' says of the world: one walk in the order of the text serves every order. No condition.
-/
import Derived.Test.YtdopbdcfompodaaBase
import Derived.Deep.Quiet
import Derived.BigQuiet
namespace Go.Proofs.Ytdopbdcfompodaa
open Go Go.RowKit
set_option linter.unusedVariables false

/-- A world of which 'S' holds. -/
structure At (S : World → Prop) where
  w : World
  ok : S w
theorem wp_region_at {P : Program} {id : Nat} {Q : Exit → Act → World → Prop} {a : Act} {w : World} {l : List Oper} (S : World → Prop) (hm : P.follows .mixedOrders = true) (hB : Region.lexB .any l.toArray = true) (hS : S w.drew)
    (h : wpQuiet P l.toArray (fun w' => ∃ p : At S, w' = p.w) (fun a' => ∀ w', (∃ p : At S, w' = p.w) → Q .normal a' w') l a) : (Code.region id l.toArray true).wp P Q a w :=
  wp_region_quiet (C := fun w' => ∃ p : At S, w' = p.w) hm hB ⟨⟨_, hS⟩, rfl⟩ (by simpa using h)
/-- A callee's contract, met in a world of which S holds. -/
theorem Calls.at_of {P : Program} {f : FuncId} {args : Array Value} {S : World → Prop} {p : At S} {v : Value} {T : Ending → World → Prop}
    (h : Calls P f args p.w T) (hT : ∀ e w', T e w' → e = .returned v ∧ S w') : Calls P f args p.w fun e w'' => e = .returned v ∧ ∃ p : At S, w'' = p.w :=
  h.mono fun _ _ ht => ⟨(hT _ _ ht).1, ⟨_, (hT _ _ ht).2⟩, rfl⟩
/-- Block g is as it was, and nothing old has turned. -/
structure Keeps (B : Nat) (w0 : World) (g : Nat) (t : TypeId) (cs : Array Value) (w : World) : Prop where
  blk : Blk w g t cs
  bel : Below B w0 w
  size : B ≤ w.heap.size
section
variable {B : Nat} {w0 w w' : World} {g : Nat} {t : TypeId} {cs : Array Value}
theorem Keeps.alloc (h : Keeps B w0 g t cs w) (o : Obj) : Keeps B w0 g t cs (w.alloc o) := ⟨h.blk.alloc o, h.bel.alloc h.size o, Nat.le_trans h.size (by simp)⟩
theorem Keeps.drew (h : Keeps B w0 g t cs w) : Keeps B w0 g t cs w.drew := ⟨h.blk.drew, h.bel.drew, h.size⟩
theorem Keeps.drewN (h : Keeps B w0 g t cs w) (n : Nat) : Keeps B w0 g t cs (w.drewN n) := ⟨h.blk.drewN n, below_drewN h.bel n, h.size⟩
theorem Keeps.below (h : Keeps B w0 g t cs w) (hb : Below w.heap.size w w') : Keeps B w0 g t cs w' := ⟨h.blk.below hb h.blk.lt, h.bel.trans (hb.mono h.size), Nat.le_trans h.size hb.size⟩
theorem Keeps.cell (h : Keeps B w0 g t cs w) (i : Nat) {v : Value} (hv : cs[i]? = some v) : w.cell? ⟨g, i, none⟩ = some v := h.blk.cell' i hv
/-- A new block. -/
theorem Keeps.new (h : Below B w0 w) (hB : B ≤ w.heap.size) (t : TypeId) (cs : Array Value) : Keeps B w0 w.heap.size t cs (w.alloc (.cells cs t)) := ⟨Blk.new _ _ _, h.alloc hB _, Nat.le_trans hB (by simp)⟩
end
end Go.Proofs.Ytdopbdcfompodaa

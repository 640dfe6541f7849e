/-
  General lemmas that no program is named in: a region that draws its order, whose operations only read and whose callees keep what 'S' says of the world: one walk in the order of the text serves every order. No condition.
-/
import Derived.Test.YtefdjdipbnnoaaaGreatDoorBase
import Derived.Deep.Quiet
import Derived.BigQuiet
namespace Go.Proofs.YtefdjdipbnnoaaaGreatDoor
open Go Go.RowKit
set_option linter.unusedVariables false

/-- A world of which 'S' holds. -/
structure At (S : World → Prop) where
  w : World
  ok : S w
theorem wp_region_at {P : Program} {id : Nat} {Q : Exit → Act → World → Prop} {a : Act} {w : World} {l : List Oper} (S : World → Prop) (hm : P.follows .mixedOrders = true) (hB : Region.lexB .any l.toArray = true) (hS : S w.drew)
    (h : wpQuiet P l.toArray (fun w' => ∃ p : At S, w' = p.w) (fun a' => ∀ w', (∃ p : At S, w' = p.w) → Q .normal a' w') l a) : (Code.region id l.toArray true).wp P Q a w :=
  wp_region_quiet (C := fun w' => ∃ p : At S, w' = p.w) hm hB ⟨⟨_, hS⟩, rfl⟩ (by simpa using h)
/-- A callee's contract, met in a world of which S holds. -/
theorem Calls.at_of {P : Program} {f : FuncId} {args : Array Value} {S : World → Prop} {p : At S} {v : Value} {T : Ending → World → Prop}
    (h : Calls P f args p.w T) (hT : ∀ e w', T e w' → e = .returned v ∧ S w') : Calls P f args p.w fun e w'' => e = .returned v ∧ ∃ p : At S, w'' = p.w :=
  h.mono fun _ _ ht => ⟨(hT _ _ ht).1, ⟨_, (hT _ _ ht).2⟩, rfl⟩
/-- Block g is as it was, and nothing old has turned. -/
structure Keeps (B : Nat) (w0 : World) (g : Nat) (t : TypeId) (cs : Array Value) (w : World) : Prop where
  blk : Blk w g t cs
  bel : Below B w0 w
  size : B ≤ w.heap.size
section
variable {B : Nat} {w0 w w' : World} {g : Nat} {t : TypeId} {cs : Array Value}
theorem Keeps.alloc (h : Keeps B w0 g t cs w) (o : Obj) : Keeps B w0 g t cs (w.alloc o) := ⟨h.blk.alloc o, h.bel.alloc h.size o, Nat.le_trans h.size (by simp)⟩
theorem Keeps.drew (h : Keeps B w0 g t cs w) : Keeps B w0 g t cs w.drew := ⟨h.blk.drew, h.bel.drew, h.size⟩
theorem Keeps.drewN (h : Keeps B w0 g t cs w) (n : Nat) : Keeps B w0 g t cs (w.drewN n) := ⟨h.blk.drewN n, below_drewN h.bel n, h.size⟩
theorem Keeps.below (h : Keeps B w0 g t cs w) (hb : Below w.heap.size w w') : Keeps B w0 g t cs w' := ⟨h.blk.below hb h.blk.lt, h.bel.trans (hb.mono h.size), Nat.le_trans h.size hb.size⟩
theorem Keeps.cell (h : Keeps B w0 g t cs w) (i : Nat) {v : Value} (hv : cs[i]? = some v) : w.cell? ⟨g, i, none⟩ = some v := h.blk.cell' i hv
/-- A new block. -/
theorem Keeps.new (h : Below B w0 w) (hB : B ≤ w.heap.size) (t : TypeId) (cs : Array Value) : Keeps B w0 w.heap.size t cs (w.alloc (.cells cs t)) := ⟨Blk.new _ _ _, h.alloc hB _, Nat.le_trans hB (by simp)⟩
end
/-- A whole struct or array is read, in every world of the class. -/
theorem quiet_load {P : Program} {S : World → Prop} {o : Oper} {a : Act} {K : Act → Prop} (ty : TypeId) (x : Operand) (h : o.op = .load ty x) (p : Addr) (v : Value) (hx : a.eval x = .pointer (some p))
    (hl : ∀ q : At S, (Instr.loadAt ty (.pointer (some p))).run P q.w = .ok v q.w) (hk : K (a.put o.dst v)) : o.quiet P a (fun w' => ∃ q : At S, w' = q.w) K :=
  ⟨v, fun w ⟨q, hq⟩ => by
    subst hq
    unfold Oper.quietAt execOp
    simp only [h, hx, Sem.run_bind, hl q, Result.andThen_ok, Sem.run_pure]
    exact ⟨rfl, rfl⟩, hk⟩
/-- These blocks are as told, and nothing old has turned. -/
structure Holds (B : Nat) (w0 : World) (l : List (Nat × TypeId × Array Value)) (w : World) : Prop where
  blk : ∀ x ∈ l, Blk w x.1 x.2.1 x.2.2
  bel : Below B w0 w
  size : B ≤ w.heap.size
section
variable {B : Nat} {w0 w w' : World} {l : List (Nat × TypeId × Array Value)}
theorem Holds.alloc (h : Holds B w0 l w) (o : Obj) : Holds B w0 l (w.alloc o) := ⟨fun x hx => (h.blk x hx).alloc o, h.bel.alloc h.size o, Nat.le_trans h.size (by simp)⟩
theorem Holds.drew (h : Holds B w0 l w) : Holds B w0 l w.drew := ⟨fun x hx => (h.blk x hx).drew, h.bel.drew, h.size⟩
theorem Holds.drewN (h : Holds B w0 l w) (n : Nat) : Holds B w0 l (w.drewN n) := ⟨fun x hx => (h.blk x hx).drewN n, below_drewN h.bel n, h.size⟩
theorem Holds.below (h : Holds B w0 l w) (hb : Below w.heap.size w w') : Holds B w0 l w' := ⟨fun x hx => (h.blk x hx).below hb (h.blk x hx).lt, h.bel.trans (hb.mono h.size), Nat.le_trans h.size hb.size⟩
/-- A whole struct or array is read. -/
theorem load_of {P : Program} {g : Nat} {t ty : TypeId} {cs : List Value} {d : TypeDesc} (hb : Blk w g t cs.toArray) (hu : P.underlying ty = some d) (hd : d.isRow = true) (hi : (P.info? ty).map (·.size) = some cs.length) :
    (Instr.loadAt ty (.pointer (some ⟨g, 0, none⟩))).run P w = .ok (.agg cs.toArray) w :=
  run_loadAt_mid w g 0 ty cs d (fun j v hv => by rw [Nat.zero_add, hb.cell]; simpa using hv) hu hd hi
end
end Go.Proofs.YtefdjdipbnnoaaaGreatDoor

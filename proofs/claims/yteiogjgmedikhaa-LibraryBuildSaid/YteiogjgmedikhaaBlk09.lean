/-
  Words and blocks in memory. No condition.
-/
import Derived.Test.YteiogjgmedikhaaRight09
namespace Go.Proofs.Yteiogjgmedikhaa
open Go Go.RowKit
set_option linter.unusedVariables false

/-- Where an expression's kids lie. -/
structure Kid where
  a : Option Addr
  cap : Nat
/-- The four cells of a word. -/
def wordC (w : WordL) (k : Kid) : List Value := [.int .i64 w.letter, .int .i64 w.x.op, .int .i64 w.x.n, .slice k.a w.x.kids.length k.cap]
/-- The words of a block in memory. -/
structure WordsAt (W : World) (ws : List WordL) (a : Option Addr) (cap : Nat) (k : Nat → Kid) : Prop where
  num : ∀ (i : Nat) (x : WordL), ws[i]? = some x → ∃ b o, a = some ⟨b, o, none⟩ ∧ b < W.heap.size ∧ ∀ j v, (wordC x (k i))[j]? = some v → W.cell? ⟨b, o + i * 4 + j, none⟩ = some v
  tree : ∀ (i : Nat) (x : WordL), ws[i]? = some x → ExAt W x.x (k i).a (k i).cap
  most : ws.length ≤ cap ∧ cap ≤ 9223372036854775807
theorem WordsAt.under {W W' : World} {ws : List WordL} {a : Option Addr} {cap : Nat} {k : Nat → Kid} (h : WordsAt W ws a cap k) (hb : Below W.heap.size W W') : WordsAt W' ws a cap k :=
  ⟨fun i x hi => by
    obtain ⟨b, o, e, hl, hc⟩ := h.num i x hi
    exact ⟨b, o, e, by have := hb.size; omega, fun j v hv => (hb.cell (p := ⟨b, o + i * 4 + j, none⟩) hl).trans (hc j v hv)⟩, fun i x hi => (h.tree i x hi).under hb, h.most⟩
/-- Where what a block holds lies. -/
structure Place where
  words : Option Addr
  cap : Nat
  k : Nat → Kid
  left : Kid
  x : Kid
/-- The eleven cells of a block. -/
def blkC (b : BlkL) (p : Place) : List Value := [.int .i64 b.kind, .int .i64 b.label, .bool b.skip, .slice p.words b.words.length p.cap, .int .i64 b.left.op, .int .i64 b.left.n, .slice p.left.a b.left.kids.length p.left.cap,
  .int .i64 b.x.op, .int .i64 b.x.n, .slice p.x.a b.x.kids.length p.x.cap, .int .i64 b.n]
structure BlkAt (W : World) (b : BlkL) (p : Place) : Prop where
  words : WordsAt W b.words p.words p.cap p.k
  left : ExAt W b.left p.left.a p.left.cap
  x : ExAt W b.x p.x.a p.x.cap
theorem BlkAt.under {W W' : World} {b : BlkL} {p : Place} (h : BlkAt W b p) (hb : Below W.heap.size W W') : BlkAt W' b p := ⟨h.words.under hb, h.left.under hb, h.x.under hb⟩
end Go.Proofs.Yteiogjgmedikhaa

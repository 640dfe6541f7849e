/-
  The heads of the rounds of cncref09.Copied. No condition.
-/
import Derived.Test.YteiogjgmedikhaaCopyP09
import Derived.Test.YteiogjgmedikhaaLit09
namespace Go.Proofs.Yteiogjgmedikhaa
open Go Go.RowKit
set_option linter.unusedVariables false

/-- The cells of a block, the words as a value. -/
def rowC (b : BlkL) (vw : Value) (kl kx : Kid) : List Value := [.int .i64 b.kind, .int .i64 b.label, .bool b.skip, vw, .int .i64 b.left.op, .int .i64 b.left.n, .slice kl.a b.left.kids.length kl.cap,
  .int .i64 b.x.op, .int .i64 b.x.n, .slice kx.a b.x.kids.length kx.cap, .int .i64 b.n]
/-- The head of a round of Copied's outer loop. -/
structure ROuterAt (w : World) (bs : List BlkL) (i : Nat) (v : Value) (pl : Nat → Place) (wr : World) : Prop where
  own : wr.ownsRow w.heap.size 37 11 v i (flat (blksC bs pl) i)
  bel : Below w.heap.size w wr
  new : ∀ (j : Nat) (b : BlkL), bs[j]? = some b → j < i → BlkP (fun q => w.heap.size ≤ q ∧ v.ownBlock ≠ some q) wr b (pl j)
/-- The head of a round of its inner loop: W0: the world at the outer round's head. -/
structure RInnerAt (W0 : World) (b : BlkL) (kl kx : Kid) (m : Nat) (vw : Value) (kk : Nat → Kid) (wr : World) : Prop where
  blk : Blk wr W0.heap.size 37 (rowC b vw kl kx).toArray
  own : wr.ownsRow (W0.heap.size + 1) 48 4 vw m (flat (wordsC b.words kk) m)
  bel : Below W0.heap.size W0 wr
  left : ExP (fun q => W0.heap.size < q ∧ vw.ownBlock ≠ some q) wr b.left kl.a kl.cap
  x : ExP (fun q => W0.heap.size < q ∧ vw.ownBlock ≠ some q) wr b.x kx.a kx.cap
  new : ∀ (j : Nat) (x : WordL), b.words[j]? = some x → j < m → ExP (fun q => W0.heap.size < q ∧ vw.ownBlock ≠ some q) wr x.x (kk j).a (kk j).cap
theorem RInnerAt.step {W0 wr w3 w4 : World} {b : BlkL} {kl kx : Kid} {m : Nat} {vw : Value} {kk : Nat → Kid} (h : RInnerAt W0 b kl kx m vw kk wr) {x : WordL} (hx : b.words[m]? = some x) (hb : Below wr.heap.size wr w3)
    {a3 : Option Addr} {c3 : Nat} (hin : ExIn wr.heap.size w3 x.x a3 c3) {g c : Nat} (hp : Pushed w3 (W0.heap.size + 1) 48 4 vw m (wordsC b.words kk) (wordC x ⟨a3, c3⟩) g c w4) :
    RInnerAt W0 b kl kx (m + 1) (.slice (some ⟨g, 0, none⟩) (m + 1) c) (fun j => if j = m then ⟨a3, c3⟩ else kk j) (w4.setCell ⟨W0.heap.size, 3, none⟩ (.slice (some ⟨g, 0, none⟩) (m + 1) c)) := by
  have hm : m < b.words.length := (List.getElem?_eq_some_iff.1 hx).1
  have hs := hb.size
  have hlt := h.blk.lt
  have hrow : ∀ q, vw.ownBlock = some q → W0.heap.size + 1 ≤ q ∧ q < wr.heap.size := fun q e => h.own.lt q e
  have hg : W0.heap.size + 1 ≤ g := by
    rcases hp.at' with e | e
    · have := hrow g e; omega
    · omega
  have hne : some W0.heap.size ≠ vw.ownBlock := fun e => by have := hrow _ e.symm; omega
  have gr : w4.grownBy (w4.setCell ⟨W0.heap.size, 3, none⟩ (.slice (some ⟨g, 0, none⟩) (m + 1) c)) (some W0.heap.size) := grown_setCell (p := ⟨W0.heap.size, 3, none⟩) (grown_refl _ _) (.inl rfl) _
  have hfin : ∀ (x : Ex) a c'', ExP (fun q => W0.heap.size < q ∧ vw.ownBlock ≠ some q) w3 x a c'' → ExP (fun q => W0.heap.size < q ∧ Value.ownBlock (.slice (some ⟨g, 0, none⟩) (m + 1) c) ≠ some q) (w4.setCell ⟨W0.heap.size, 3, none⟩ (.slice (some ⟨g, 0, none⟩) (m + 1) c)) x a c'' := by
    intro x a c' h1
    have h2 : ExP (fun q => (W0.heap.size < q ∧ vw.ownBlock ≠ some q) ∧ q < w3.heap.size) w3 x a c' := h1.imp fun q hq hl => ⟨hq, hl⟩
    have h3 := h2.grownP hp.grown (fun k e hk => hk.1.2 e)
    have h4 := h3.grownP gr (fun k e hk => by injection e with e; omega)
    refine h4.imp fun q hq _ => ⟨hq.1.1, ?_⟩
    simp only [Value.ownBlock, ne_eq, Option.some.injEq]
    intro e
    rcases hp.at' with e2 | e2
    · rw [e] at e2; exact hq.1.2 e2
    · omega
  refine ⟨?_, ?_, ?_, hfin _ _ _ (h.left.under hb), hfin _ _ _ (h.x.under hb), fun j y hy' hj => ?_⟩
  · exact ((h.blk.below hb h.blk.lt).grown hp.grown hne).put 3 _
  · have := hp.own
    rw [wordsC_put b.words kk m x hx ⟨a3, c3⟩] at this
    refine this.kept gr (.inr ?_)
    simp [Value.ownBlock]
    omega
  · exact ((h.bel.trans (hb.mono h.bel.size)).trans (below_of_grown hp.grown (by have := h.bel.size; omega) (fun k e => by have := hrow k e; omega))).setCell (by simp) _
  · by_cases e : j = m
    · subst e
      rw [hx] at hy'
      injection hy' with hy'
      subst hy'
      simp only [if_true]
      exact hfin _ _ _ (hin.imp fun q hq _ => ⟨by omega, fun e => by have := hrow q e; omega⟩)
    · simp only [e, if_false]
      exact hfin _ _ _ ((h.new j y hy' (by omega)).under hb)
theorem RInnerAt.words {W0 wr : World} {b : BlkL} {kl kx : Kid} {vw : Value} {kk : Nat → Kid} (h : RInnerAt W0 b kl kx b.words.length vw kk wr) :
    ∃ aw cw, vw = .slice aw b.words.length cw ∧ BlkP (fun q => W0.heap.size < q) wr b ⟨aw, cw, kk, kl, kx⟩ := by
  obtain ⟨aw, cw, e, hrow, hcap⟩ := RowAt.of_own h.own (fun i hi => wordsC_len hi)
  exact ⟨aw, cw, e, ⟨hrow.imp fun q hq _ => by omega, fun i x hx => (h.new i x hx (List.getElem?_eq_some_iff.1 hx).1).imp fun q hq _ => hq.1, hcap⟩, h.left.imp fun q hq _ => hq.1, h.x.imp fun q hq _ => hq.1⟩
theorem ROuterAt.step {w W0 w5 w6 : World} {bs : List BlkL} {i : Nat} {v : Value} {pl : Nat → Place} (h : ROuterAt w bs i v pl W0) {b : BlkL} (hb : bs[i]? = some b) {p : Place} (hbel : Below W0.heap.size W0 w5) (hn : BlkP (fun q => W0.heap.size < q) w5 b p)
    {g c : Nat} (hp : Pushed w5 w.heap.size 37 11 v i (blksC bs pl) (blkC b p) g c w6) :
    ROuterAt w bs (i + 1) (.slice (some ⟨g, 0, none⟩) (i + 1) c) (fun j => if j = i then p else pl j) w6 := by
  have hs := hbel.size
  have hrow : ∀ q, v.ownBlock = some q → w.heap.size ≤ q ∧ q < W0.heap.size := fun q e => h.own.lt q e
  have hws := h.bel.size
  have hfin : ∀ (y : BlkL) py, BlkP (fun q => w.heap.size ≤ q ∧ v.ownBlock ≠ some q) w5 y py → BlkP (fun q => w.heap.size ≤ q ∧ Value.ownBlock (.slice (some ⟨g, 0, none⟩) (i + 1) c) ≠ some q) w6 y py := by
    intro y py h1
    have h2 : BlkP (fun q => (w.heap.size ≤ q ∧ v.ownBlock ≠ some q) ∧ q < w5.heap.size) w5 y py := h1.imp fun q hq hl => ⟨hq, hl⟩
    refine (h2.keep fun q hq hl => hp.grown.block q hl fun e => hq.1.2 e.symm).imp fun q hq _ => ⟨hq.1.1, ?_⟩
    simp only [Value.ownBlock, ne_eq, Option.some.injEq]
    intro e
    rcases hp.at' with e2 | e2
    · rw [e] at e2; exact hq.1.2 e2
    · omega
  refine ⟨?_, ?_, fun j y hy' hj => ?_⟩
  · have := hp.own
    rwa [blksC_put bs pl i b hb p] at this
  · exact (h.bel.trans (hbel.mono hws)).trans (below_of_grown hp.grown (by omega) (fun k e => by have := hrow k e; omega))
  · by_cases e : j = i
    · subst e
      rw [hb] at hy'
      injection hy' with hy'
      subst hy'
      simp only [if_true]
      exact hfin _ _ (hn.imp fun q hq _ => ⟨by omega, fun e => by have := hrow q e; omega⟩)
    · simp only [e, if_false]
      exact hfin _ _ ((h.new j y hy' (by omega)).keep fun q hq hl => hbel.block q hl)
end Go.Proofs.Yteiogjgmedikhaa

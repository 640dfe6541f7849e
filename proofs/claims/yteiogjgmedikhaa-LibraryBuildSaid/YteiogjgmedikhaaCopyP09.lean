/-
  The heads of the rounds of library.Copy. No condition.
-/
import Derived.Test.YteiogjgmedikhaaMemB09
namespace Go.Proofs.Yteiogjgmedikhaa
open Go Go.RowKit
set_option linter.unusedVariables false

/-- Some cells of a row are other ones. -/
def splice (l : List Value) (d : Nat) (vs : List Value) : List Value := l.take d ++ vs ++ l.drop (d + vs.length)
theorem splice_len {l vs : List Value} {d : Nat} (h : d + vs.length ≤ l.length) : (splice l d vs).length = l.length := by unfold splice; simp; omega
theorem splice_in {l vs : List Value} {d j : Nat} (h : d + vs.length ≤ l.length) (h1 : d ≤ j) (h2 : j < d + vs.length) : (splice l d vs)[j]? = vs[j - d]? := by
  unfold splice
  rw [List.append_assoc, List.getElem?_append_right (by simp; omega), List.length_take, Nat.min_eq_left (by omega), List.getElem?_append_left (by omega)]
theorem splice_out {l vs : List Value} {d j : Nat} (h : d + vs.length ≤ l.length) (h1 : j < d ∨ d + vs.length ≤ j) : (splice l d vs)[j]? = l[j]? := by
  unfold splice
  rcases h1 with h1 | h1
  · rw [List.append_assoc, List.getElem?_append_left (by simp; omega), List.getElem?_take_of_lt h1]
  · rw [List.getElem?_append_right (by simp; omega), List.length_append, List.length_take, Nat.min_eq_left (by omega), List.getElem?_drop]
    congr 1; omega
section
variable {w w' : World} {C n : Nat} {f : Nat → List Value}
theorem OwnTab.setPart {g : Nat} {T : TypeId} (h : OwnTab w g T C n f) {k d : Nat} (hk : k < n) {vs : List Value} (hv : d + vs.length ≤ C) : OwnTab (w.setCells g (k * C + d) vs) g T C n (fun i => if i = k then splice (f i) d vs else f i) := by
  obtain ⟨cur, hb, hc⟩ := h
  obtain ⟨cur', hb', hs⟩ := Blk.setCells vs (k * C + d) w cur hb
  have hsome : ∀ j, j < vs.length → (w.cell? ⟨g, k * C + d + j, none⟩).isSome = true := fun j hj => by
    rw [Nat.add_assoc, hb.cell, (hc k hk).2 (d + j) (by omega), List.getElem?_eq_getElem (by rw [(hc k hk).1]; omega)]; rfl
  refine ⟨cur', hb', fun i hi => ?_⟩
  by_cases e : i = k
  · subst e
    simp only [if_true]
    have hl := (hc i hi).1
    refine ⟨by rw [splice_len (by omega)]; exact hl, fun j hj => ?_⟩
    by_cases hin : d ≤ j ∧ j < d + vs.length
    · rw [splice_in (by omega) hin.1 hin.2, ← hb'.cell, show i * C + j = i * C + d + (j - d) by omega, World.cell?_setCells_in g vs (i * C + d) w hsome (j - d) (by omega), List.getElem?_eq_getElem (by omega)]
    · rw [splice_out (by omega) (by omega), ← (hc i hi).2 j hj, ← hb'.cell, ← hb.cell]
      refine World.cell?_setCells_out g vs (i * C + d) w _ fun _ _ => ?_
      show i * C + j < i * C + d ∨ i * C + d + vs.length ≤ i * C + j
      omega
  · simp only [e, if_false]
    refine ⟨(hc i hi).1, fun j hj => ?_⟩
    rw [← (hc i hi).2 j hj, ← hb'.cell, ← hb.cell]
    refine World.cell?_setCells_out g vs (k * C + d) w _ fun _ _ => ?_
    show i * C + j < k * C + d ∨ k * C + d + vs.length ≤ i * C + j
    rcases Nat.lt_or_gt_of_ne e with h1 | h1
    · have : (i + 1) * C ≤ k * C := Nat.mul_le_mul_right _ h1
      rw [Nat.add_mul, Nat.one_mul] at this; left; omega
    · have : (k + 1) * C ≤ i * C := Nat.mul_le_mul_right _ h1
      rw [Nat.add_mul, Nat.one_mul] at this; right; omega
theorem OwnTab.therePart {g : Nat} {T : TypeId} (h : OwnTab w g T C n f) {k d m : Nat} (hk : k < n) (hd : d + m ≤ C) : w.there g (k * C + d) m := fun j hj => by
  have := h.there hk (d + j) (by omega)
  rwa [← Nat.add_assoc] at this
end

/-- The head of a round of Copy's outer loop, at block i. -/
structure CopyBAt (w : World) (bs : List BlkL) (g : Nat) (i : Nat) (pl : Nat → Place) (wr : World) : Prop where
  tab : OwnTab wr g 37 11 bs.length (blksC bs pl)
  far : w.heap.size ≤ g
  bel : Below w.heap.size w wr
  old : ∀ (j : Nat) (b : BlkL), bs[j]? = some b → i ≤ j → BlkAt w b (pl j)
  new : ∀ (j : Nat) (b : BlkL), bs[j]? = some b → j < i → BlkP (fun q => g < q) wr b (pl j)
/-- The head of a round of its inner loop, at word m of block i. -/
structure CopyWAt (w : World) (bs : List BlkL) (g : Nat) (i : Nat) (b : BlkL) (pl : Nat → Place) (aw : Option Addr) (cw : Nat) (kl kx : Kid) (m : Nat) (kk : Nat → Kid) (wr : World) : Prop where
  tab : OwnTab wr g 37 11 bs.length (blksC bs (fun j => if j = i then ⟨aw, cw, kk, kl, kx⟩ else pl j))
  far : w.heap.size ≤ g
  bel : Below w.heap.size w wr
  old : ∀ (j : Nat) (b : BlkL), bs[j]? = some b → i < j → BlkAt w b (pl j)
  new : ∀ (j : Nat) (b : BlkL), bs[j]? = some b → j < i → BlkP (fun q => g < q ∧ aw ≠ some ⟨q, 0, none⟩) wr b (pl j)
  left : ExP (fun q => g < q ∧ aw ≠ some ⟨q, 0, none⟩) wr b.left kl.a kl.cap
  x : ExP (fun q => g < q ∧ aw ≠ some ⟨q, 0, none⟩) wr b.x kx.a kx.cap
  row : RowAt (fun q => g < q) wr 48 4 b.words.length (wordsC b.words kk) aw
  most : b.words.length ≤ cw ∧ cw ≤ 9223372036854775807
  wold : ∀ (j : Nat) (x : WordL), b.words[j]? = some x → m ≤ j → ExAt w x.x (kk j).a (kk j).cap
  wnew : ∀ (j : Nat) (x : WordL), b.words[j]? = some x → j < m → ExP (fun q => g < q ∧ aw ≠ some ⟨q, 0, none⟩) wr x.x (kk j).a (kk j).cap
section
variable {w wr w3 : World} {bs : List BlkL} {g i m : Nat} {b : BlkL} {pl : Nat → Place} {aw : Option Addr} {cw : Nat} {kl kx : Kid} {kk : Nat → Kid}
theorem CopyWAt.next (h : CopyWAt w bs g i b pl aw cw kl kx b.words.length kk wr) (hb : bs[i]? = some b) : CopyBAt w bs g (i + 1) (fun j => if j = i then ⟨aw, cw, kk, kl, kx⟩ else pl j) wr := by
  refine ⟨h.tab, h.far, h.bel, fun j y hj hij => ?_, fun j y hj hij => ?_⟩
  · simp only [show j ≠ i by omega, if_false]
    exact h.old j y hj (by omega)
  · by_cases e : j = i
    · subst e
      rw [hb] at hj
      injection hj with hj
      subst hj
      simp only [if_true]
      exact ⟨⟨h.row, fun i x hx => (h.wnew i x hx (List.getElem?_eq_some_iff.1 hx).1).imp fun q hq _ => hq.1, h.most⟩, h.left.imp fun q hq _ => hq.1, h.x.imp fun q hq _ => hq.1⟩
    · simp only [e, if_false]
      exact (h.new j y hj (by omega)).imp fun q hq _ => hq.1
/-- A word's tree has been copied. -/
theorem CopyWAt.step (h : CopyWAt w bs g i b pl aw cw kl kx m kk wr) {x : WordL} (hx : b.words[m]? = some x) (hb : Below wr.heap.size wr w3) {gw : Nat} (hgw : aw = some ⟨gw, 0, none⟩) {a3 : Option Addr} {c3 : Nat} (hin : ExIn wr.heap.size w3 x.x a3 c3) :
    CopyWAt w bs g i b pl aw cw kl kx (m + 1) (fun j => if j = m then ⟨a3, c3⟩ else kk j) (w3.setCells gw (m * 4 + 1) (exC x.x.op x.x.n a3 x.x.kids.length c3)) := by
  have hm : m < b.words.length := (List.getElem?_eq_some_iff.1 hx).1
  obtain ⟨gw', e, hgf, hto⟩ := h.row.some (by omega)
  rw [hgw] at e
  injection e with e
  injection e with e
  subst e
  have hlt := hto.lt
  have hs := hb.size
  have gr : w3.grownBy (w3.setCells gw (m * 4 + 1) (exC x.x.op x.x.n a3 x.x.kids.length c3)) (some gw) := grown_setCells (.inl rfl) _ _ _ (grown_refl _ _)
  have hkeep : ∀ q, (g < q ∧ aw ≠ some ⟨q, 0, none⟩) → q < wr.heap.size → (w3.setCells gw (m * 4 + 1) (exC x.x.op x.x.n a3 x.x.kids.length c3)).heap[q]? = wr.heap[q]? := fun q hq hl =>
    (gr.block q (by omega) (fun e => by injection e with e; subst e; exact hq.2 hgw)).trans (hb.block q hl)
  refine ⟨?_, h.far, ?_, h.old, fun j y hj hij => (h.new j y hj hij).keep hkeep, h.left.keep hkeep, h.x.keep hkeep, ?_, h.most, fun j y hj hij => ?_, fun j y hj hij => ?_⟩
  · have h1 := (h.tab.below hb h.tab.lt).grown gr (by intro e; injection e with e; omega)
    refine h1.congr fun j hj => ?_
    by_cases e : j = i
    · subst e
      unfold blksC
      cases bs[j]? with
      | none => rfl
      | some y => simp only [if_true]; rfl
    · unfold blksC
      simp only [e, if_false]
  · exact (h.bel.trans (hb.mono h.bel.size)).trans (below_of_grown gr (by have := h.bel.size; omega) (fun k e => by injection e with e; have := h.far; omega))
  · refine .inr ⟨gw, hgw, hgf, ?_⟩
    have h1 := (hto.below hb hlt).setPart (k := m) (d := 1) hm (vs := exC x.x.op x.x.n a3 x.x.kids.length c3) (by simp [exC])
    rw [← wordsC_put b.words kk m x hx ⟨a3, c3⟩]
    refine h1.congr fun j hj => ?_
    by_cases e : j = m
    · subst e
      simp only [if_true]
      rw [wordsC_at hx]
      rfl
    · simp only [e, if_false]
  · simp only [show j ≠ m by omega, if_false]
    exact h.wold j y hj (by omega)
  · by_cases e : j = m
    · subst e
      rw [hx] at hj
      injection hj with hj
      subst hj
      simp only [if_true]
      have h2 : ExP (fun q => g < q ∧ aw ≠ some ⟨q, 0, none⟩) w3 x.x a3 c3 := hin.imp fun q hq _ => ⟨by have := h.tab.lt; omega, fun e => by rw [hgw] at e; injection e with e; injection e with e; omega⟩
      exact h2.grownP gr fun k e hk => by injection e with e; subst e; exact hk.2 hgw
    · simp only [e, if_false]
      exact (h.wnew j y hj (by omega)).keep hkeep
/-- Behind the first statement of a round. -/
theorem CopyBAt.enter (h : CopyBAt w bs g i pl wr) (hb : bs[i]? = some b) {w1 w2 w3 : World} {al ax : Option Addr} {cl cx : Nat} {v : Value} (b1 : Below wr.heap.size wr w1) (hl : ExIn wr.heap.size w1 b.left al cl)
    (b2 : Below w1.heap.size w1 w2) (hx : ExIn w1.heap.size w2 b.x ax cx) (b3 : Below w2.heap.size w2 w3) (hw : w3.ownsRow w2.heap.size 48 4 v b.words.length (flat (wordsC b.words (pl i).k) b.words.length)) :
    ∃ aw cw, v = .slice aw b.words.length cw ∧ CopyWAt w bs g i b pl aw cw ⟨al, cl⟩ ⟨ax, cx⟩ 0 (pl i).k
      (((w3.setCells g (i * 11 + 4) (exC b.left.op b.left.n al b.left.kids.length cl)).setCells g (i * 11 + 7) (exC b.x.op b.x.n ax b.x.kids.length cx)).setCell ⟨g, i * 11 + 3, none⟩ v) := by
  have hi : i < bs.length := (List.getElem?_eq_some_iff.1 hb).1
  obtain ⟨aw, cw, rfl, hrow, hcap⟩ := RowAt.of_own hw (fun i hi => wordsC_len hi)
  have haw : ∀ q, aw = some ⟨q, 0, none⟩ → w2.heap.size ≤ q := by
    intro q e
    rcases OwnTab.of_own hw (fun i hi => wordsC_len hi) with ⟨e', _⟩ | ⟨g, c, e', hg, _⟩
    · injection e' with e1; rw [e1] at e; cases e
    · injection e' with e1; rw [e1] at e; injection e with e; injection e with e; omega
  refine ⟨aw, cw, rfl, ?_⟩
  have hs1 := b1.size
  have hs2 := b2.size
  have hs3 := b3.size
  have hg := h.tab.lt
  have b12 : Below wr.heap.size wr w2 := b1.trans (b2.mono hs1)
  have b13 : Below wr.heap.size wr w3 := b12.trans (b3.mono (by omega))
  have gr : w3.grownBy (((w3.setCells g (i * 11 + 4) (exC b.left.op b.left.n al b.left.kids.length cl)).setCells g (i * 11 + 7) (exC b.x.op b.x.n ax b.x.kids.length cx)).setCell ⟨g, i * 11 + 3, none⟩ (.slice aw b.words.length cw)) (some g) :=
    grown_setCell (p := ⟨g, i * 11 + 3, none⟩) (grown_setCells (.inl rfl) _ _ _ (grown_setCells (.inl rfl) _ _ _ (grown_refl _ _))) (.inl rfl) _
  have t3 := h.tab.below b13 hg
  have keep1 : ∀ q, g < q → q < wr.heap.size → (((w3.setCells g (i * 11 + 4) (exC b.left.op b.left.n al b.left.kids.length cl)).setCells g (i * 11 + 7) (exC b.x.op b.x.n ax b.x.kids.length cx)).setCell ⟨g, i * 11 + 3, none⟩ (.slice aw b.words.length cw)).heap[q]? = wr.heap[q]? := fun q hq hl =>
    (gr.block q (by omega) (fun e => by injection e with e; omega)).trans (b13.block q hl)
  refine ⟨?_, h.far, ?_, fun j y hj hij => h.old j y hj (by omega), fun j y hj hij => ?_, ?_, ?_, ?_, hcap, fun j x hx _ => (h.old i b hb (Nat.le_refl _)).words.tree j x hx, fun j x _ hj => by omega⟩
  · have t6 := ((t3.setPart (k := i) (d := 4) hi (vs := exC b.left.op b.left.n al b.left.kids.length cl) (by simp [exC])).setPart (k := i) (d := 7) hi (vs := exC b.x.op b.x.n ax b.x.kids.length cx) (by simp [exC])).put (k := i) (j := 3) hi (by omega) (.slice aw b.words.length cw)
    refine t6.congr fun j hj => ?_
    by_cases e : j = i
    · subst e
      simp only [if_true]
      rw [blksC_at hb, blksC_at hb, if_pos rfl]
      rfl
    · simp only [e, if_false]
      unfold blksC
      simp only [e, if_false]
  · exact (h.bel.trans (b13.mono h.bel.size)).trans (below_of_grown gr (by have := h.bel.size; omega) (fun k e => by injection e with e; have := h.far; omega))
  · have h1 : BlkP (fun q => g < q ∧ q < wr.heap.size) wr y (pl j) := (h.new j y hj hij).imp fun q hq hl => ⟨hq, hl⟩
    refine (h1.keep fun q hq hl => keep1 q hq.1 hl).imp fun q hq _ => ⟨hq.1, fun e => by have := haw q e; omega⟩
  · have h1 : ExP (fun q => wr.heap.size ≤ q ∧ q < w1.heap.size) w1 b.left al cl := hl.imp fun q hq hl => ⟨hq, hl⟩
    refine (h1.keep fun q hq hl => ?_).imp fun q hq _ => ⟨by omega, fun e => by have := haw q e; omega⟩
    exact (gr.block q (by omega) (fun e => by injection e with e; omega)).trans ((b3.block q (by omega)).trans (b2.block q hl))
  · have h1 : ExP (fun q => w1.heap.size ≤ q ∧ q < w2.heap.size) w2 b.x ax cx := hx.imp fun q hq hl => ⟨hq, hl⟩
    refine (h1.keep fun q hq hl => ?_).imp fun q hq _ => ⟨by omega, fun e => by have := haw q e; omega⟩
    exact (gr.block q (by omega) (fun e => by injection e with e; omega)).trans (b3.block q (by omega))
  · exact (hrow.keep fun q hq hl => gr.block q hl (fun e => by injection e with e; omega)).imp fun q hq _ => by omega
end
end Go.Proofs.Yteiogjgmedikhaa

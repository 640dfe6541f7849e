/-
  Trees, words and blocks that lie in new memory; what stays of them. No condition.
-/
import Derived.Test.YteiogjgmedikhaaBlk09
import Derived.Test.YteiogjgmedikhaaTab
namespace Go.Proofs.Yteiogjgmedikhaa
open Go Go.RowKit
set_option linter.unusedVariables false

/-- The cells of kid i. -/
def kidC (ks : List Ex) (k : Nat → Option Addr × Nat) (i : Nat) : List Value := match ks[i]? with
  | some x => exC x.op x.n (k i).1 x.kids.length (k i).2
  | none => []
theorem kidC_at {ks : List Ex} {k : Nat → Option Addr × Nat} {i : Nat} {x : Ex} (h : ks[i]? = some x) : kidC ks k i = exC x.op x.n (k i).1 x.kids.length (k i).2 := by unfold kidC; rw [h]
theorem kidC_len {ks : List Ex} {k : Nat → Option Addr × Nat} {i : Nat} (h : i < ks.length) : (kidC ks k i).length = 3 := by rw [kidC_at (List.getElem?_eq_getElem h)]; rfl
theorem kidC_one {ks : List Ex} {k : Nat → Option Addr × Nat} {i : Nat} : ∀ u ∈ kidC ks k i, u.oneCell' = true := by
  intro u hu
  unfold kidC at hu
  split at hu
  · simp [exC] at hu
    rcases hu with rfl | rfl | rfl <;> rfl
  · cases hu
/-- A tree in memory, of whose blocks 'p' holds, all of them made of expressions that may be written. -/
inductive ExP (p : Nat → Prop) (W : World) : Ex → Option Addr → Nat → Prop
  | mk {op n : Int} {kids : List Ex} {a : Option Addr} {cap : Nat} (k : Nat → Option Addr × Nat)
      (hn : kids = [] ∨ ∃ b o cur, a = some ⟨b, o, none⟩ ∧ p b ∧ Blk W b 35 cur ∧
        ∀ (i : Nat), i < kids.length → ∀ j, j < 3 → cur[o + i * 3 + j]? = (kidC kids k i)[j]?)
      (hc : kids.length ≤ cap) (hm : cap ≤ 9223372036854775807)
      (h : ∀ (i : Nat) (x : Ex), kids[i]? = some x → ExP p W x (k i).1 (k i).2) : ExP p W (.mk op n kids) a cap
/-- No block lies below B. -/
abbrev ExIn (B : Nat) (W : World) (x : Ex) (a : Option Addr) (cap : Nat) : Prop := ExP (fun b => B ≤ b) W x a cap
theorem ExP.at {p : Nat → Prop} {W : World} {x : Ex} {a : Option Addr} {cap : Nat} (h : ExP p W x a cap) : ExAt W x a cap := by
  induction h with
  | mk k hn hc hm _ ih =>
    refine .mk k ?_ hc hm ih
    rcases hn with hn | ⟨b, o, cur, e, _, hb, hcell⟩
    · exact .inl hn
    · refine .inr ⟨b, o, e, hb.lt, fun i x hx j v hv => ?_⟩
      have hi : i < _ := (List.getElem?_eq_some_iff.1 hx).1
      have hj : j < 3 := by have := (List.getElem?_eq_some_iff.1 hv).1; simpa [exC] using this
      rw [hb.cell, hcell i hi j hj, kidC_at hx]
      exact hv
theorem ExP.keep {p : Nat → Prop} {W W' : World} {x : Ex} {a : Option Addr} {cap : Nat} (h : ExP p W x a cap) (hk : ∀ g, p g → g < W.heap.size → W'.heap[g]? = W.heap[g]?) : ExP p W' x a cap := by
  induction h with
  | mk k hn hc hm _ ih =>
    refine .mk k ?_ hc hm ih
    rcases hn with hn | ⟨b, o, cur, e, hB, hb, hcell⟩
    · exact .inl hn
    · exact .inr ⟨b, o, cur, e, hB, (hk b hB hb.lt).trans hb, hcell⟩
theorem ExP.imp {p q : Nat → Prop} {W : World} {x : Ex} {a : Option Addr} {cap : Nat} (h : ExP p W x a cap) (hB : ∀ g, p g → g < W.heap.size → q g) : ExP q W x a cap := by
  induction h with
  | mk k hn hc hm _ ih =>
    refine .mk k ?_ hc hm ih
    rcases hn with hn | ⟨b, o, cur, e, hp, hb, r⟩
    · exact .inl hn
    · exact .inr ⟨b, o, cur, e, hB b hp hb.lt, hb, r⟩
theorem ExP.mono {B B' : Nat} {W : World} {x : Ex} {a : Option Addr} {cap : Nat} (h : ExIn B W x a cap) (hB : B' ≤ B) : ExIn B' W x a cap := h.imp fun g h _ => Nat.le_trans hB h
theorem ExP.under {p : Nat → Prop} {W W' : World} {x : Ex} {a : Option Addr} {cap : Nat} (h : ExP p W x a cap) (hb : Below W.heap.size W W') : ExP p W' x a cap := h.keep fun g _ hg => hb.block g hg
theorem ExP.grown {B : Nat} {W W' : World} {x : Ex} {a : Option Addr} {cap : Nat} {row : Option Nat} (h : ExIn B W x a cap) (hb : W.grownBy W' row) (hr : ∀ k, row = some k → k < B) : ExIn B W' x a cap :=
  h.keep fun g hg hl => hb.block g hl fun e => by have := hr g e.symm; omega
theorem ExP.grownP {p : Nat → Prop} {W W' : World} {x : Ex} {a : Option Addr} {cap : Nat} {row : Option Nat} (h : ExP p W x a cap) (hb : W.grownBy W' row) (hr : ∀ k, row = some k → ¬ p k) : ExP p W' x a cap :=
  h.keep fun g hg hl => hb.block g hl fun e => hr g e.symm hg
theorem ExAt.grown {W W' : World} {x : Ex} {a : Option Addr} {cap : Nat} (h : ExAt W x a cap) (hb : W.grownBy W' none) : ExAt W' x a cap := h.under (below_of_grown0 hb)

section
variable {w w' : World}
theorem setCells_size (b : Nat) : ∀ (vs : List Value) (o : Nat) (w : World), (w.setCells b o vs).heap.size = w.heap.size
  | [], _, _ => rfl
  | v :: r, o, w => by rw [World.setCells, setCells_size b r]; simp [World.setCell]
theorem grown_setCells {a : World} {row : Option Nat} {g : Nat} (hp : some g = row ∨ a.heap.size ≤ g) : ∀ (vs : List Value) (o : Nat) (w : World), a.grownBy w row → a.grownBy (w.setCells g o vs) row
  | [], _, _, h => h
  | v :: r, o, w, h => grown_setCells hp r (o + 1) _ (grown_setCell h hp v)
theorem Blk.setCells {g : Nat} {T : TypeId} : ∀ (vs : List Value) (o : Nat) (w : World) (cur : Array Value), Blk w g T cur → ∃ cur', Blk (w.setCells g o vs) g T cur' ∧ cur'.size = cur.size
  | [], _, _, cur, h => ⟨cur, h, rfl⟩
  | v :: r, o, w, cur, h => by
    obtain ⟨cur', h', hs⟩ := Blk.setCells r (o + 1) _ _ (h.put o v)
    exact ⟨cur', h', by rw [hs]; simp⟩
theorem Blk.setCellsFar {g g' : Nat} {T : TypeId} {cs : Array Value} (hne : g ≠ g') : ∀ (vs : List Value) (o : Nat) (w : World), Blk w g T cs → Blk (w.setCells g' o vs) g T cs
  | [], _, _, h => h
  | v :: r, o, w, h => Blk.setCellsFar hne r (o + 1) _ (h.far (p := ⟨g', o, none⟩) hne v)
variable {C n : Nat} {f : Nat → List Value}
theorem OwnTab.setCells {g : Nat} {T : TypeId} (h : OwnTab w g T C n f) {k : Nat} (hk : k < n) {vs : List Value} (hv : vs.length = C) : OwnTab (w.setCells g (k * C) vs) g T C n (fun i => if i = k then vs else f i) := by
  obtain ⟨cur, hb, hc⟩ := h
  obtain ⟨cur', hb', hs⟩ := Blk.setCells vs (k * C) w cur hb
  have hsome : ∀ j, j < vs.length → (w.cell? ⟨g, k * C + j, none⟩).isSome = true := fun j hj => by
    rw [hb.cell, (hc k hk).2 j (by omega), List.getElem?_eq_getElem (by rw [(hc k hk).1]; omega)]; rfl
  refine ⟨cur', hb', fun i hi => ?_⟩
  by_cases e : i = k
  · subst e
    simp only [if_true]
    refine ⟨hv, fun j hj => ?_⟩
    rw [← hb'.cell, World.cell?_setCells_in g vs (i * C) w hsome j (by omega), List.getElem?_eq_getElem (by omega)]
  · simp only [e, if_false]
    refine ⟨(hc i hi).1, fun j hj => ?_⟩
    rw [← (hc i hi).2 j hj, ← hb'.cell, ← hb.cell]
    refine World.cell?_setCells_out g vs (k * C) w _ fun _ _ => ?_
    show i * C + j < k * C ∨ k * C + vs.length ≤ i * C + j
    rcases Nat.lt_or_gt_of_ne e with h1 | h1
    · have : (i + 1) * C ≤ k * C := Nat.mul_le_mul_right _ h1
      rw [Nat.add_mul, Nat.one_mul] at this; left; omega
    · have : (k + 1) * C ≤ i * C := Nat.mul_le_mul_right _ h1
      rw [Nat.add_mul, Nat.one_mul] at this; right; omega
theorem OwnTab.there {g : Nat} {T : TypeId} (h : OwnTab w g T C n f) {k : Nat} (hk : k < n) : w.there g (k * C) C := fun j hj => by
  refine ⟨?_, h.frozen _⟩
  rw [h.cell hk hj]
  obtain ⟨cur, hb, hc⟩ := h
  rw [List.getElem?_eq_getElem (by rw [(hc k hk).1]; omega)]; rfl
theorem OwnTab.range {g : Nat} {T : TypeId} (h : OwnTab w g T C n f) {k : Nat} (hk : k < n) : w.rangeAt g (k * C) (f k) := fun j v hv => by
  have hl : (f k).length = C := by obtain ⟨cur, hb, hc⟩ := h; exact (hc k hk).1
  rw [h.cell hk (by have := (List.getElem?_eq_some_iff.1 hv).1; omega)]; exact hv
theorem OwnTab.grown {g : Nat} {T : TypeId} {row : Option Nat} (h : OwnTab w g T C n f) (hg : w.grownBy w' row) (hr : row ≠ some g) : OwnTab w' g T C n f := by
  obtain ⟨cur, hb, hc⟩ := h
  exact ⟨cur, hb.grown hg (fun e => hr e.symm), hc⟩
theorem TabAt.range {b o : Nat} (h : TabAt w (some ⟨b, o, none⟩) C n f) {k : Nat} (hk : k < n) : w.rangeAt b (o + k * C) (f k) := fun j v hv => by
  obtain ⟨hl, b', o', e, _, hc⟩ := h k hk
  injection e with e
  injection e with e1 e2
  subst e1 e2
  rw [hc j (by have := (List.getElem?_eq_some_iff.1 hv).1; omega)]; exact hv
end
/-- The kids of a tree as a table. -/
theorem ExAt.tab {W : World} {op n : Int} {ks : List Ex} {a : Option Addr} {cap : Nat} (h : ExAt W (.mk op n ks) a cap) :
    ∃ k, TabAt W a 3 ks.length (kidC ks k) ∧ (∀ (i : Nat) (x : Ex), ks[i]? = some x → ExAt W x (k i).1 (k i).2) ∧ ks.length ≤ cap ∧ cap ≤ 9223372036854775807 ∧ (a = none → ks.length = 0) := by
  cases h with
  | mk k hn hc hm h =>
    refine ⟨k, fun i hi => ⟨kidC_len hi, ?_⟩, h, hc, hm, fun ha => ?_⟩
    · rcases hn with hn | ⟨b, o, e, hl, hcell⟩
      · subst hn; simp at hi
      · refine ⟨b, o, e, hl, fun j hj => ?_⟩
        have hx := List.getElem?_eq_getElem hi
        have hlen : j < (kidC ks k i).length := by rw [kidC_len hi]; exact hj
        rw [List.getElem?_eq_getElem hlen]
        refine hcell i _ hx j _ ?_
        rw [← kidC_at hx]
        exact List.getElem?_eq_getElem hlen
    · rcases hn with hn | ⟨b, o, e, _⟩
      · subst hn; rfl
      · rw [ha] at e; cases e
/-- A tree of at most m levels, two kids at most each. -/
def slimE : Nat → Ex → Prop
  | 0, _ => False
  | m + 1, .mk _ _ ks => ks.length ≤ 2 ∧ ∀ k ∈ ks, slimE m k
theorem slim_of_right : ∀ (m : Nat) (x : Ex), rightE m x = true → slimE m x
  | 0, _, h => by simp [rightE] at h
  | m + 1, .mk op n ks, h => by
    unfold rightE at h
    split at h
    · cases h
    · rename_i hk
      have hl : ks.length ≤ 2 := by
        have : (ks.length : Int) = kidsN op := by omega
        unfold kidsN at this
        split at this
        · omega
        · split at this
          · omega
          · split at this <;> omega
      split at h
      · rename_i h0
        have : (ks.length : Int) = kidsN op := by omega
        rw [h0] at this
        have e : ks = [] := List.length_eq_zero_iff.1 (by have : kidsN 0 = 0 := rfl; omega)
        subst e
        exact ⟨by simp, fun k hk => by cases hk⟩
      · simp only [Bool.and_eq_true, List.all_eq_true] at h
        exact ⟨hl, fun k hk => slim_of_right m k (h.1 k hk)⟩
theorem slim_of_zero {x : Ex} (m : Nat) (h : zeroE x = true) : slimE (m + 1) x := by
  obtain ⟨op, n, ks⟩ := x
  simp [zeroE, Ex.op, Ex.n, Ex.kids] at h
  obtain ⟨_, _, rfl⟩ := h
  exact ⟨by simp, fun k hk => by cases hk⟩
end Go.Proofs.Yteiogjgmedikhaa

/-
  Words and blocks that lie in new memory. No condition.
-/
import Derived.Test.YteiogjgmedikhaaCopied09
import Derived.Test.YteiogjgmedikhaaHeldL
namespace Go.Proofs.Yteiogjgmedikhaa
open Go Go.RowKit
set_option linter.unusedVariables false

/-- A row from the head of a block on. -/
def RowAt (p : Nat → Prop) (W : World) (T : TypeId) (C n : Nat) (f : Nat → List Value) (a : Option Addr) : Prop := n = 0 ∨ ∃ b, a = some ⟨b, 0, none⟩ ∧ p b ∧ OwnTab W b T C n f
section
variable {p q : Nat → Prop} {W W' : World} {T : TypeId} {C n : Nat} {f : Nat → List Value} {a : Option Addr}
theorem RowAt.keep (h : RowAt p W T C n f a) (hk : ∀ g, p g → g < W.heap.size → W'.heap[g]? = W.heap[g]?) : RowAt p W' T C n f a := by
  rcases h with h | ⟨b, e, hp, cur, hb, hc⟩
  · exact .inl h
  · exact .inr ⟨b, e, hp, cur, (hk b hp hb.lt).trans hb, hc⟩
theorem RowAt.imp (h : RowAt p W T C n f a) (hk : ∀ g, p g → g < W.heap.size → q g) : RowAt q W T C n f a := by
  rcases h with h | ⟨b, e, hp, ht⟩
  · exact .inl h
  · exact .inr ⟨b, e, hk b hp ht.lt, ht⟩
theorem RowAt.tab (h : RowAt p W T C n f a) : TabAt W a C n f := by
  rcases h with h | ⟨b, e, hp, ht⟩
  · subst h; intro i hi; omega
  · subst e; exact ht.tab
theorem RowAt.some (h : RowAt p W T C n f a) (hn : 0 < n) : ∃ b, a = some ⟨b, 0, none⟩ ∧ p b ∧ OwnTab W b T C n f := by
  rcases h with h | h
  · omega
  · exact h
theorem RowAt.of_own {base : Nat} {v : Value} (h : W.ownsRow base T C v n (flat f n)) (hl : ∀ i, i < n → (f i).length = C) :
    ∃ a c, v = .slice a n c ∧ RowAt (fun g => base ≤ g) W T C n f a ∧ n ≤ c ∧ c ≤ 9223372036854775807 := by
  rcases OwnTab.of_own h hl with ⟨rfl, rfl⟩ | ⟨g, c, rfl, hg, ht⟩
  · exact ⟨none, 0, rfl, .inl rfl, by omega, by omega⟩
  · have hcap : n ≤ c ∧ c ≤ 9223372036854775807 := by
      rcases h.2 with ⟨e', h0⟩ | ⟨g, cap', cur, e', _, _, hn, hx, _⟩
      · injection e' with e1 e2 e3; cases e1
      · injection e' with _ e1 e2; subst e2; unfold maxLen at hx; omega
    exact ⟨_, c, rfl, .inr ⟨g, rfl, hg, ht⟩, hcap⟩
end

/-- The cells of word i. -/
def wordsC (ws : List WordL) (k : Nat → Kid) (i : Nat) : List Value := match ws[i]? with
  | some x => wordC x (k i)
  | none => []
theorem wordsC_at {ws : List WordL} {k : Nat → Kid} {i : Nat} {x : WordL} (h : ws[i]? = some x) : wordsC ws k i = wordC x (k i) := by unfold wordsC; rw [h]
theorem wordsC_len {ws : List WordL} {k : Nat → Kid} {i : Nat} (h : i < ws.length) : (wordsC ws k i).length = 4 := by rw [wordsC_at (List.getElem?_eq_getElem h)]; rfl
theorem wordsC_one {ws : List WordL} {k : Nat → Kid} {i : Nat} : ∀ u ∈ wordsC ws k i, u.oneCell' = true := by
  intro u hu
  unfold wordsC at hu
  split at hu
  · simp [wordC] at hu
    rcases hu with rfl | rfl | rfl | rfl <;> rfl
  · cases hu
theorem wordsC_put (ws : List WordL) (k : Nat → Kid) (i : Nat) (x : WordL) (hx : ws[i]? = some x) (p : Kid) :
    (fun j => if j = i then wordC x p else wordsC ws k j) = wordsC ws (fun j => if j = i then p else k j) := by
  funext j
  by_cases e : j = i
  · subst e
    rw [if_pos rfl, wordsC_at hx, if_pos rfl]
  · rw [if_neg e]
    unfold wordsC
    cases ws[j]? with
    | none => rfl
    | some y => simp [e]
/-- The cells of block i. -/
def blksC (bs : List BlkL) (pl : Nat → Place) (i : Nat) : List Value := match bs[i]? with
  | some b => blkC b (pl i)
  | none => []
theorem blksC_at {bs : List BlkL} {pl : Nat → Place} {i : Nat} {b : BlkL} (h : bs[i]? = some b) : blksC bs pl i = blkC b (pl i) := by unfold blksC; rw [h]
theorem blksC_len {bs : List BlkL} {pl : Nat → Place} {i : Nat} (h : i < bs.length) : (blksC bs pl i).length = 11 := by rw [blksC_at (List.getElem?_eq_getElem h)]; rfl
theorem blkC_one {b : BlkL} {p : Place} : ∀ u ∈ blkC b p, u.oneCell' = true := by
  intro u hu
  simp [blkC] at hu
  rcases hu with rfl | rfl | rfl | rfl | rfl | rfl | rfl | rfl | rfl | rfl | rfl <;> rfl
theorem blksC_one {bs : List BlkL} {pl : Nat → Place} {i : Nat} : ∀ u ∈ blksC bs pl i, u.oneCell' = true := by
  intro u hu
  unfold blksC at hu
  split at hu
  · exact blkC_one u hu
  · cases hu
theorem blksC_put (bs : List BlkL) (pl : Nat → Place) (i : Nat) (b : BlkL) (hb : bs[i]? = some b) (p : Place) :
    (fun j => if j = i then blkC b p else blksC bs pl j) = blksC bs (fun j => if j = i then p else pl j) := by
  funext j
  by_cases e : j = i
  · subst e
    rw [if_pos rfl, blksC_at hb, if_pos rfl]
  · rw [if_neg e]
    unfold blksC
    cases bs[j]? with
    | none => rfl
    | some y => simp [e]
structure WordsP (p : Nat → Prop) (W : World) (ws : List WordL) (a : Option Addr) (cap : Nat) (k : Nat → Kid) : Prop where
  row : RowAt p W 48 4 ws.length (wordsC ws k) a
  tree : ∀ (i : Nat) (x : WordL), ws[i]? = some x → ExP p W x.x (k i).a (k i).cap
  most : ws.length ≤ cap ∧ cap ≤ 9223372036854775807
structure BlkP (p : Nat → Prop) (W : World) (b : BlkL) (pl : Place) : Prop where
  words : WordsP p W b.words pl.words pl.cap pl.k
  left : ExP p W b.left pl.left.a pl.left.cap
  x : ExP p W b.x pl.x.a pl.x.cap
structure BlksP (p : Nat → Prop) (W : World) (bs : List BlkL) (a : Option Addr) (cap : Nat) (pl : Nat → Place) : Prop where
  row : RowAt p W 37 11 bs.length (blksC bs pl) a
  blk : ∀ (i : Nat) (b : BlkL), bs[i]? = some b → BlkP p W b (pl i)
  most : bs.length ≤ cap ∧ cap ≤ 9223372036854775807
structure BlksAt (W : World) (bs : List BlkL) (a : Option Addr) (cap : Nat) (pl : Nat → Place) : Prop where
  tab : TabAt W a 11 bs.length (blksC bs pl)
  blk : ∀ (i : Nat) (b : BlkL), bs[i]? = some b → BlkAt W b (pl i)
  nil : a = none → bs.length = 0
  most : bs.length ≤ cap ∧ cap ≤ 9223372036854775807
section
variable {p q : Nat → Prop} {W W' : World} {ws : List WordL} {b : BlkL} {bs : List BlkL} {a : Option Addr} {cap : Nat} {k : Nat → Kid} {pl : Place} {pls : Nat → Place}
theorem WordsP.keep (h : WordsP p W ws a cap k) (hk : ∀ g, p g → g < W.heap.size → W'.heap[g]? = W.heap[g]?) : WordsP p W' ws a cap k := ⟨h.row.keep hk, fun i x hx => (h.tree i x hx).keep hk, h.most⟩
theorem WordsP.imp (h : WordsP p W ws a cap k) (hk : ∀ g, p g → g < W.heap.size → q g) : WordsP q W ws a cap k := ⟨h.row.imp hk, fun i x hx => (h.tree i x hx).imp hk, h.most⟩
theorem WordsP.at (h : WordsP p W ws a cap k) : WordsAt W ws a cap k := ⟨fun i x hx => by
  have hi : i < ws.length := (List.getElem?_eq_some_iff.1 hx).1
  obtain ⟨hl, b, o, e, hlt, hc⟩ := h.row.tab i hi
  refine ⟨b, o, e, hlt, fun j v hv => ?_⟩
  rw [hc j (by have := (List.getElem?_eq_some_iff.1 hv).1; simpa [wordC] using this), wordsC_at hx]
  exact hv, fun i x hx => (h.tree i x hx).at, h.most⟩
theorem BlkP.keep (h : BlkP p W b pl) (hk : ∀ g, p g → g < W.heap.size → W'.heap[g]? = W.heap[g]?) : BlkP p W' b pl := ⟨h.words.keep hk, h.left.keep hk, h.x.keep hk⟩
theorem BlkP.imp (h : BlkP p W b pl) (hk : ∀ g, p g → g < W.heap.size → q g) : BlkP q W b pl := ⟨h.words.imp hk, h.left.imp hk, h.x.imp hk⟩
theorem BlkP.at (h : BlkP p W b pl) : BlkAt W b pl := ⟨h.words.at, h.left.at, h.x.at⟩
theorem BlksP.keep (h : BlksP p W bs a cap pls) (hk : ∀ g, p g → g < W.heap.size → W'.heap[g]? = W.heap[g]?) : BlksP p W' bs a cap pls := ⟨h.row.keep hk, fun i x hx => (h.blk i x hx).keep hk, h.most⟩
theorem BlksP.imp (h : BlksP p W bs a cap pls) (hk : ∀ g, p g → g < W.heap.size → q g) : BlksP q W bs a cap pls := ⟨h.row.imp hk, fun i x hx => (h.blk i x hx).imp hk, h.most⟩
theorem BlksP.under (h : BlksP p W bs a cap pls) (hb : Below W.heap.size W W') : BlksP p W' bs a cap pls := h.keep fun g _ hg => hb.block g hg
theorem BlksP.at (h : BlksP p W bs a cap pls) : BlksAt W bs a cap pls := ⟨h.row.tab, fun i b hb => (h.blk i b hb).at, (fun e => by
  rcases h.row with h | ⟨b, e', _⟩
  · exact h
  · rw [e] at e'; cases e'), h.most⟩
theorem BlksAt.under (h : BlksAt W bs a cap pls) (hb : Below W.heap.size W W') : BlksAt W' bs a cap pls := ⟨h.tab.below hb, fun i b hi => (h.blk i b hi).under hb, h.nil, h.most⟩
/-- The words as a table. -/
theorem WordsAt.tab (h : WordsAt W ws a cap k) : TabAt W a 4 ws.length (wordsC ws k) := fun i hi => by
  have hx := List.getElem?_eq_getElem hi
  obtain ⟨b, o, e, hl, hc⟩ := h.num i _ hx
  refine ⟨wordsC_len hi, b, o, e, hl, fun j hj => ?_⟩
  have hlen : j < (wordsC ws k i).length := by rw [wordsC_len hi]; exact hj
  rw [List.getElem?_eq_getElem hlen]
  refine hc j _ ?_
  rw [← wordsC_at hx]
  exact List.getElem?_eq_getElem hlen
theorem WordsAt.nil (h : WordsAt W ws a cap k) (e : a = none) : ws.length = 0 := by
  cases ws with
  | nil => rfl
  | cons x l =>
    obtain ⟨b, o, e', _⟩ := h.num 0 x rfl
    rw [e] at e'; cases e'
end
/-- A block that copying can bear. -/
structure slimB (b : BlkL) : Prop where
  words : b.words.length ≤ 24
  each : ∀ (i : Nat) (x : WordL), b.words[i]? = some x → slimE 16 x.x
  left : slimE 16 b.left
  x : slimE 16 b.x
theorem slim_of_valid {b : BlkL} (h : validB b = true) : slimB b := by
  obtain ⟨kd, lab, sk, ws, lf, x, n⟩ := b
  unfold validB at h
  simp only at h
  split at h
  · cases h
  rename_i hbad
  have hw : ws.length ≤ 24 := by omega
  split at h
  · simp only [Bool.and_eq_true, List.all_eq_true] at h
    refine ⟨hw, fun i y hy => ?_, slim_of_zero 15 h.1.1.1, slim_of_zero 15 h.1.1.2⟩
    have := h.2 y (List.mem_of_getElem? hy)
    unfold wordB at this
    simp only [Bool.and_eq_true] at this
    exact slim_of_right _ _ this.2
  split at h
  · cases h
  split at h
  · cases h
  rename_i hw0
  have e : ws = [] := List.length_eq_zero_iff.1 (by omega)
  subst e
  by_cases hlf : (if kd = 1 ∨ kd = 3 then rightE 16 lf else zeroE lf) = false
  · rw [if_pos hlf] at h; cases h
  rw [if_neg hlf] at h
  by_cases hx : (if kd = 1 ∨ kd = 3 ∨ kd = 2 ∨ kd = 4 then rightE 16 x else zeroE x) = false
  · rw [if_pos hx] at h; cases h
  clear h
  refine ⟨by simp, fun i y hy => by simp at hy, ?_, ?_⟩
  · by_cases hc : kd = 1 ∨ kd = 3
    · rw [if_pos hc] at hlf; exact slim_of_right _ _ (by simpa using hlf)
    · rw [if_neg hc] at hlf; exact slim_of_zero 15 (by simpa using hlf)
  · by_cases hc : kd = 1 ∨ kd = 3 ∨ kd = 2 ∨ kd = 4
    · rw [if_pos hc] at hx; exact slim_of_right _ _ (by simpa using hx)
    · rw [if_neg hc] at hx; exact slim_of_zero 15 (by simpa using hx)
end Go.Proofs.Yteiogjgmedikhaa

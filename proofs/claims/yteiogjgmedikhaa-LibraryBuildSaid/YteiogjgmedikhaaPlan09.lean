/-
  What library.Build computes, in plain words. No condition.
-/
import Derived.Test.YteiogjgmedikhaaMem09
namespace Go.Proofs.Yteiogjgmedikhaa
open Go Go.RowKit
set_option linter.unusedVariables false

/-- The programs so far (number, first block), each block's mate, the blocks that begin the open loops. -/
structure StL where
  progs : List (Int × Nat)
  mate : List Int
  op : List Nat
def nOf (bs : List BlkL) (w : Nat) : Int := match bs[w]? with | some b => b.n | none => 0
def lastFirst (l : List (Int × Nat)) : Nat := match l.getLast? with | some p => p.2 | none => 0
/-- The labels of the blocks from f to i - 1. -/
def labelsOf (bs : List BlkL) (f i : Nat) : List Int := (((bs.take i).drop f).map (·.label)).filter (fun x => decide (0 < x))
def topOf (l : List Nat) : Nat := match l.getLast? with | some w => w | none => 0
/-- The programs behind block i. -/
def progsB (b : BlkL) (i : Nat) (s : StL) : List (Int × Nat) := if b.kind = 6 then s.progs ++ [(b.n, i)] else s.progs
def dupN (b : BlkL) (s : StL) : Bool := decide (b.n ∈ s.progs.map (·.1))
def dupL (bs : List BlkL) (b : BlkL) (i : Nat) (s : StL) : Bool := decide (0 < b.label ∧ b.label ∈ labelsOf bs (lastFirst (progsB b i s)) i)
def sameN (bs : List BlkL) (b : BlkL) (s : StL) : Bool := s.op.any fun w => decide (nOf bs w = b.n)
inductive Res where
  | err (at' : Nat) (e : Int)
  | ok (s : StL)
def stepB (bs : List BlkL) (b : BlkL) (i : Nat) (s : StL) : Res :=
  if b.kind = 6 ∧ s.op ≠ [] then .err (topOf s.op) 11
  else if b.kind = 6 ∧ dupN b s = true then .err i 7
  else if dupL bs b i s = true then .err i 7
  else if b.kind = 4 then
    if sameN bs b s = true then .err i 11 else .ok ⟨progsB b i s, s.mate ++ [-1], s.op ++ [i]⟩
  else if b.kind = 5 then
    if s.op = [] ∨ nOf bs (topOf s.op) ≠ b.n then .err i 11
    else .ok ⟨progsB b i s, ((s.mate ++ [-1]).set (topOf s.op) i).set i (topOf s.op), s.op.dropLast⟩
  else .ok ⟨progsB b i s, s.mate ++ [-1], s.op⟩
def runB (bs : List BlkL) : Nat → Res
  | 0 => .ok ⟨[(0, 0)], [], []⟩
  | i + 1 => match runB bs i with
    | .err a e => .err a e
    | .ok s => match bs[i]? with
      | some b => stepB bs b i s
      | none => .ok s
/-- The first block that is not valid; the length if there is none. -/
def badB : List BlkL → Nat
  | [] => 0
  | b :: l => if validB b = true then badB l + 1 else 0
def buildB (bs : List BlkL) : Res :=
  if 2000 < bs.length then .err 0 10
  else if badB bs < bs.length then .err (badB bs) 1
  else match runB bs bs.length with
    | .err a e => .err a e
    | .ok s => if s.op = [] then .ok s else .err (topOf s.op) 11

/-! ### What holds of the states -/
/-- The open loops are blocks ahead of i, the mates too; the first program has the number 0. -/
structure StOK (bs : List BlkL) (i : Nat) (s : StL) : Prop where
  mate : s.mate.length = i
  op : ∀ w ∈ s.op, w < i
  few : s.op.length ≤ i
  progs : ∃ r, s.progs = (0, 0) :: r ∧ r.length ≤ i ∧ ∀ p ∈ r, 1 ≤ p.1 ∧ p.1 ≤ 99999
  first : lastFirst s.progs ≤ i
theorem StOK.start (bs : List BlkL) : StOK bs 0 ⟨[(0, 0)], [], []⟩ := ⟨rfl, by simp, by simp, ⟨[], rfl, by simp, by simp⟩, by simp [lastFirst]⟩
theorem lastFirst_snoc (l : List (Int × Nat)) (p : Int × Nat) : lastFirst (l ++ [p]) = p.2 := by simp [lastFirst]
theorem topOf_snoc (l : List Nat) (w : Nat) : topOf (l ++ [w]) = w := by simp [topOf]
theorem topOf_mem {l : List Nat} (h : l ≠ []) : topOf l ∈ l := by
  unfold topOf
  rw [List.getLast?_eq_some_getLast h]
  exact List.getLast_mem h
theorem topOf_at {l : List Nat} (h : l ≠ []) : l[l.length - 1]? = some (topOf l) := by
  unfold topOf
  rw [← List.getLast?_eq_getElem?, List.getLast?_eq_some_getLast h]
theorem labelsOf_at (bs : List BlkL) (i : Nat) : labelsOf bs i i = [] := by simp [labelsOf]
theorem labelsOf_succ {bs : List BlkL} {b : BlkL} {f i : Nat} (hb : bs[i]? = some b) (hf : f ≤ i) : labelsOf bs f (i + 1) = labelsOf bs f i ++ (if 0 < b.label then [b.label] else []) := by
  have hi : i < bs.length := (List.getElem?_eq_some_iff.1 hb).1
  unfold labelsOf
  rw [List.take_add_one, hb, List.drop_append_of_le_length (by simp; omega)]
  simp only [List.map_append, List.filter_append, Option.toList_some, List.map_cons, List.map_nil]
  congr 1
  by_cases h : 0 < b.label <;> simp [h]
theorem labelsOf_mem {bs : List BlkL} {f i : Nat} {x : Int} (hx : 0 < x) (hi : i ≤ bs.length) : x ∈ labelsOf bs f i ↔ ∃ k b, f ≤ k ∧ k < i ∧ bs[k]? = some b ∧ b.label = x := by
  unfold labelsOf
  simp only [List.mem_filter, List.mem_map, decide_eq_true_eq, hx, and_true]
  constructor
  · rintro ⟨b, hb, rfl⟩
    obtain ⟨k, hk⟩ := List.mem_iff_getElem?.1 hb
    rw [List.getElem?_drop, List.getElem?_take] at hk
    split at hk
    · exact ⟨f + k, b, by omega, by omega, hk, rfl⟩
    · cases hk
  · rintro ⟨k, b, h1, h2, h3, rfl⟩
    refine ⟨b, List.mem_iff_getElem?.2 ⟨k - f, ?_⟩, rfl⟩
    rw [List.getElem?_drop, List.getElem?_take, if_pos (by omega), show f + (k - f) = k by omega]
    exact h3
theorem StOK.step {bs : List BlkL} {b : BlkL} {i : Nat} {s s' : StL} (h : StOK bs i s) (hv : validB b = true) (hs : stepB bs b i s = .ok s') : StOK bs (i + 1) s' := by
  have hp : ∃ r, progsB b i s = (0, 0) :: r ∧ r.length ≤ i + 1 ∧ ∀ p ∈ r, 1 ≤ p.1 ∧ p.1 ≤ 99999 := by
    obtain ⟨r, e, hl, hr⟩ := h.progs
    unfold progsB
    split
    · rename_i h6
      refine ⟨r ++ [(b.n, i)], by rw [e]; rfl, by simp; omega, fun p hp => ?_⟩
      rcases List.mem_append.1 hp with hp | hp
      · exact hr p hp
      · simp at hp
        subst hp
        have := hv
        unfold validB at this
        simp only [h6] at this
        split at this
        · cases this
        · simp at this
          exact this.2.2.2
    · exact ⟨r, e, by omega, hr⟩
  have hf : lastFirst (progsB b i s) ≤ i + 1 := by
    unfold progsB
    split
    · rw [lastFirst_snoc]; simp
    · have := h.first; omega
  unfold stepB at hs
  split at hs
  · cases hs
  split at hs
  · cases hs
  split at hs
  · cases hs
  split at hs
  · split at hs
    · cases hs
    · injection hs with hs
      subst hs
      refine ⟨by simp [h.mate], fun w hw => ?_, by simp; exact h.few, hp, hf⟩
      rcases List.mem_append.1 hw with hw | hw
      · have := h.op w hw; omega
      · simp at hw; omega
  split at hs
  · split at hs
    · cases hs
    · injection hs with hs
      subst hs
      refine ⟨by simp [h.mate], fun w hw => ?_, by simp; have := h.few; omega, hp, hf⟩
      have := h.op w (List.dropLast_subset _ hw); omega
  · injection hs with hs
    subst hs
    exact ⟨by simp [h.mate], fun w hw => by have := h.op w hw; omega, by have := h.few; simp; omega, hp, hf⟩
theorem badB_spec : ∀ (l : List BlkL) (j : Nat) (b : BlkL), l[j]? = some b → j < badB l → validB b = true
  | [], j, b, h, _ => by simp at h
  | c :: l, 0, b, h, hj => by
    simp at h
    subst h
    unfold badB at hj
    split at hj
    · assumption
    · omega
  | c :: l, j + 1, b, h, hj => by
    unfold badB at hj
    split at hj
    · exact badB_spec l j b (by simpa using h) (by omega)
    · omega
theorem badB_at : ∀ (l : List BlkL) (b : BlkL), l[badB l]? = some b → validB b = false
  | [], b, h => by simp at h
  | c :: l, b, h => by
    unfold badB at h
    split at h
    · exact badB_at l b (by simpa using h)
    · rename_i hc
      simp at h
      subst h
      simpa using hc
theorem badB_le : ∀ (l : List BlkL), badB l ≤ l.length
  | [] => Nat.le_refl _
  | c :: l => by
    unfold badB
    have := badB_le l
    split
    · simp; omega
    · omega
theorem badB_eq {l : List BlkL} {i : Nat} {b : BlkL} (h : ∀ (j : Nat) (b : BlkL), j < i → l[j]? = some b → validB b = true) (hb : l[i]? = some b) (hv : validB b = false) : badB l = i := by
  have hle := badB_le l
  have hi : i < l.length := (List.getElem?_eq_some_iff.1 hb).1
  rcases Nat.lt_trichotomy (badB l) i with hlt | e | hgt
  · have := badB_at l _ (List.getElem?_eq_getElem (by omega : badB l < l.length))
    rw [h _ _ hlt (List.getElem?_eq_getElem (by omega))] at this
    cases this
  · exact e
  · rw [badB_spec l i b hb hgt] at hv
    cases hv
theorem badB_all {l : List BlkL} (h : ∀ (j : Nat) (b : BlkL), l[j]? = some b → validB b = true) : badB l = l.length := by
  have hle := badB_le l
  rcases Nat.lt_or_ge (badB l) l.length with hlt | hge
  · have := badB_at l _ (List.getElem?_eq_getElem hlt)
    rw [h _ _ (List.getElem?_eq_getElem hlt)] at this
    cases this
  · omega
theorem runB_ok {bs : List BlkL} (hv : ∀ (j : Nat) (b : BlkL), bs[j]? = some b → validB b = true) : ∀ (i : Nat) (s : StL), i ≤ bs.length → runB bs i = .ok s → StOK bs i s
  | 0, s, _, h => by
    unfold runB at h
    injection h with h
    subst h
    exact StOK.start bs
  | i + 1, s, hi, h => by
    unfold runB at h
    cases hr : runB bs i with
    | err a e => rw [hr] at h; cases h
    | ok s0 =>
      rw [hr] at h
      have hb : bs[i]? = some bs[i] := List.getElem?_eq_getElem (by omega)
      simp only [hb] at h
      exact (runB_ok hv i s0 (by omega) hr).step (hv i _ hb) h
/-- An error stays. -/
theorem runB_err {bs : List BlkL} {i : Nat} {a : Nat} {e : Int} (h : runB bs i = .err a e) : ∀ d, runB bs (i + d) = .err a e
  | 0 => h
  | d + 1 => by
    have := runB_err h d
    show runB bs (i + d + 1) = _
    unfold runB
    rw [this]
end Go.Proofs.Yteiogjgmedikhaa

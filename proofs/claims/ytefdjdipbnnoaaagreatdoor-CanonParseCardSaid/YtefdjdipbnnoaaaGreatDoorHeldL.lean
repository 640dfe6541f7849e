/-
  General lemmas that no program is named in: a region that draws its order, walked by hand; S need not be kept by the operations of a list LL; a load may be taken first if each of these waits for it; what only computes may always be taken first. No condition.
-/
import Derived.Test.YtefdjdipbnnoaaaGreatDoorHeldE
namespace Go.Proofs.YtefdjdipbnnoaaaGreatDoor
open Go Go.RowKit
set_option linter.unusedVariables false

section
variable {P : Program} {ops : Array Oper} {Q : Exit → Act → World → Prop} {md : Region.Mode} {S : World → Prop} {LL : List Nat}
/-- Whatever order is picked from here on, every operation that is not in LL keeps S. -/
def wpAnyL (P : Program) (md : Region.Mode) (ops : Array Oper) (Q : Exit → Act → World → Prop) (S : World → Prop) (LL : List Nat) : Nat → Array Bool → Act → World → Prop
  | 0, listed, a, w => Region.ready md ops listed = [] ∧ Q .normal a w
  | fuel + 1, listed, a, w =>
    (Region.ready md ops listed = [] → Q .normal a w) ∧
    ∀ i ∈ Region.ready md ops listed, wpOp P ops Q i (fun a' w' => (LL.contains i = false → S w → S w') ∧ wpAnyL P md ops Q S LL fuel (listed.setIfInBounds i true) a' w') a w
theorem wpAny_of_L : ∀ (fuel : Nat) (listed : Array Bool) (a : Act) (w : World), wpAnyL P md ops Q S LL fuel listed a w → wpAny P md ops Q fuel listed a w
  | 0, _, _, _, h => h
  | fuel + 1, _, _, _, h => ⟨h.1, fun i hi => wpOp_mono (fun a' w' h' => wpAny_of_L fuel _ a' w' h'.2) (h.2 i hi)⟩
theorem wpAnyL_first {T : World → Prop} {i : Nat} {oi : Oper} {v : Value} (hi : ops[i]? = some oi) (hsel : ∀ (j : Nat) (o : Oper) cs b, ops[j]? = some o → o.op ≠ .select cs b)
    (hQ : ∀ c a w, Q (.panic c) (a.put oi.dst v) w → Q (.panic c) a w)
    (hT : ∀ j w w', (∀ o, ops[j]? = some o → ∀ e ∈ o.after, Region.binds md e = true → e.on ≠ i) → (LL.contains j = false → S w → S w') → T w → T w') :
    ∀ (fuel : Nat) (listed : Array Bool) (a : Act) (w : World),
      (∀ j oj, ops[j]? = some oj → j ≠ i → listed.getD j true = false → (∀ e ∈ oj.after, Region.binds md e = true → e.on ≠ i) → oi.apart ops oj = true) →
      i ∈ Region.ready md ops listed → YieldsIf P ops T oi v a → T w →
      wpAnyL P md ops Q S LL fuel (listed.setIfInBounds i true) (a.put oi.dst v) w → wpAnyL P md ops Q S LL (fuel + 1) listed a w := by
  intro fuel
  induction fuel with
  | zero =>
    intro listed a w _ hr hy hS H
    refine ⟨fun h => (by rw [h] at hr; cases hr), fun j hj => ?_⟩
    by_cases hji : j = i
    · subst hji; exact hy.wpOp hi hS ⟨fun _ h => h, H⟩
    · have := ready_mono hj hji
      rw [H.1] at this
      cases this
  | succ fuel ih =>
    intro listed a w hfree hr hy hS H
    refine ⟨fun h => (by rw [h] at hr; cases hr), fun j hj => ?_⟩
    by_cases hji : j = i
    · subst hji; exact hy.wpOp hi hS ⟨fun _ h => h, H⟩
    · have h1 := H.2 j (ready_mono hj hji)
      obtain ⟨hjun, oj, hoj, hall⟩ := mem_ready.1 hj
      have hnot : ∀ e ∈ oj.after, Region.binds md e = true → e.on ≠ i := fun e he hb heq => by
        have h1 := hall e he hb
        have h0 := (mem_ready.1 hr).1
        rw [heq] at h1
        rcases Nat.lt_or_ge i listed.size with h' | h'
        · simp [h'] at h0 h1; rw [h0] at h1; cases h1
        · simp [Array.getElem?_eq_none h'] at h1
      have hTj : ∀ w', (LL.contains j = false → S w → S w') → T w' := fun w' h => hT j w w' (fun o ho => by
        rw [hoj] at ho
        injection ho with ho
        subst ho
        exact hnot) h hS
      have h2 := wpOp_putIf hoj (hfree j oj hoj hji hjun hnot) (fun cs b => hsel i oi cs b hi) (fun cs b => hsel j oj cs b hoj) hQ hy h1
      have hfree' : ∀ k ok, ops[k]? = some ok → k ≠ i → (listed.setIfInBounds j true).getD k true = false →
          (∀ e ∈ ok.after, Region.binds md e = true → e.on ≠ i) → oi.apart ops ok = true := fun k ok hk hki hun hno => by
        refine hfree k ok hk hki ?_ hno
        by_cases hjk : j = k
        · subst hjk; exact hjun
        · rw [getD_set_ne true hjk] at hun; exact hun
      refine wpOp_mono (fun a' w' h3 => ⟨h3.2.1, ih (listed.setIfInBounds j true) a' w' hfree' (ready_mono hr (Ne.symm hji)) h3.1 (hTj w' h3.2.1) ?_⟩) h2
      rw [Array.setIfInBounds_comm _ _ hji]
      exact h3.2.2
end
section
variable {P : Program} {ops : Array Oper} {Q : Exit → Act → World → Prop} {S : World → Prop} {LL : List Nat} {fuel : Nat} {listed : Array Bool} {a : Act} {w : World}
/-- A load comes first, if all operations of LL wait for it. -/
theorem take_L (i : Nat) {oi : Oper} {v : Value} (hi : ops[i]? = some oi) (hs : Region.noSelect ops = true) (hf : Region.free .any ops listed i = true) (hr : (Region.ready .any ops listed).contains i = true) (hL : (LL.all fun l => decide (l < ops.size) && waits .any ops l i) = true)
    (hQ : ∀ c a w, Q (.panic c) (a.put oi.dst v) w → Q (.panic c) a w) (hw : Region.wanted oi (yielded ops a.tmps) = true) (hy : ∀ w, S w → (execOp a.eval oi).run P w = .ok (.value v) w) (hS : S w)
    (h : wpAnyL P .any ops Q S LL fuel (listed.setIfInBounds i true) (a.put oi.dst v) w) : wpAnyL P .any ops Q S LL (fuel + 1) listed a w :=
  wpAnyL_first (T := S) hi (Region.noSelect_spec hs) hQ (fun j w w' hn hk hT => by
    refine hk ?_ hT
    cases hc : LL.contains j with
    | false => rfl
    | true =>
      exfalso
      have := List.all_eq_true.1 hL j (by simpa using hc)
      rw [Bool.and_eq_true, decide_eq_true_eq] at this
      have hw := this.2
      unfold waits at hw
      rw [Array.getElem?_eq_getElem this.1] at hw
      obtain ⟨e, he, hb⟩ := List.any_eq_true.1 hw
      rw [Bool.and_eq_true, beq_iff_eq] at hb
      exact hn _ (Array.getElem?_eq_getElem this.1) e (by simpa using he) hb.1 hb.2) fuel listed a w (Region.free_spec hi hf) (by simpa using hr) (.inl ⟨hw, hy⟩) hS h
/-- What only computes comes first. -/
theorem take_P (i : Nat) {oi : Oper} {v : Value} (hi : ops[i]? = some oi) (hs : Region.noSelect ops = true) (hf : Region.free .any ops listed i = true) (hr : (Region.ready .any ops listed).contains i = true)
    (hQ : ∀ c a w, Q (.panic c) (a.put oi.dst v) w → Q (.panic c) a w) (hw : Region.wanted oi (yielded ops a.tmps) = true) (hy : ∀ w, (execOp a.eval oi).run P w = .ok (.value v) w)
    (h : wpAnyL P .any ops Q S LL fuel (listed.setIfInBounds i true) (a.put oi.dst v) w) : wpAnyL P .any ops Q S LL (fuel + 1) listed a w :=
  wpAnyL_first (T := fun _ => True) hi (Region.noSelect_spec hs) hQ (fun _ _ _ _ _ _ => trivial) fuel listed a w (Region.free_spec hi hf) (by simpa using hr) (.inl ⟨hw, fun w _ => hy w⟩) trivial h
/-- One operation alone may come up. -/
theorem one_L (i : Nat) {oi : Oper} (hr : Region.ready .any ops listed = [i]) (hi : ops[i]? = some oi) (hw : Region.wanted oi (yielded ops a.tmps) = true)
    (h : ∀ K : Act → World → Prop, (∀ a w', (LL.contains i = false → S w → S w') → wpAnyL P .any ops Q S LL fuel (listed.setIfInBounds i true) a w' → K a w') → oi.wp P a w K Q) : wpAnyL P .any ops Q S LL (fuel + 1) listed a w := by
  refine ⟨fun h0 => absurd (hr ▸ h0) (by simp), fun j hj => ?_⟩
  rw [hr] at hj
  obtain rfl := List.mem_singleton.1 hj
  unfold wpOp
  simp only [hi, hw, if_true]
  exact .inl (h _ fun a' w' hS' hW => ⟨hS', hW⟩)
/-- One of several operations comes up. -/
theorem more_L {l : List Nat} (hr : Region.ready .any ops listed = l) (hl : l ≠ [])
    (h : ∀ i ∈ l, ∀ K : Act → World → Prop, (∀ a w', (LL.contains i = false → S w → S w') → wpAnyL P .any ops Q S LL fuel (listed.setIfInBounds i true) a w' → K a w') → ∃ oi, ops[i]? = some oi ∧ Region.wanted oi (yielded ops a.tmps) = true ∧ oi.wp P a w K Q) : wpAnyL P .any ops Q S LL (fuel + 1) listed a w := by
  refine ⟨fun h0 => absurd (hr ▸ h0) hl, fun j hj => ?_⟩
  rw [hr] at hj
  obtain ⟨oi, hi, hw, ho⟩ := h j hj (fun a' w' => (LL.contains j = false → S w → S w') ∧ wpAnyL P .any ops Q S LL fuel (listed.setIfInBounds j true) a' w') fun a' w' hS' hW => ⟨hS', hW⟩
  unfold wpOp
  simp only [hi, hw, if_true]
  exact .inl ho
theorem done_L (hr : Region.ready .any ops listed = []) (h : Q .normal a w) : ∀ fuel, wpAnyL P .any ops Q S LL fuel listed a w
  | 0 => ⟨hr, h⟩
  | _ + 1 => ⟨fun _ => h, by rw [hr]; simp⟩
theorem region_L {id : Nat} (S : World → Prop) (LL : List Nat) (hm : P.follows .mixedOrders = true) (h : wpAnyL P .any ops Q S LL ops.size (Array.replicate ops.size false) a w.drew) : (Code.region id ops true).wp P Q a w :=
  wp_region_any hm (wpAny_of_L _ _ _ _ h)
end
end Go.Proofs.YtefdjdipbnnoaaaGreatDoor

/-
  General lemmas that no program is named in: a region that draws its order, walked by hand from 'wpAnyH' on; also in a round of a range over a function. No condition.
-/
import Derived.Test.YtefdjdipbnnoaaaGreatDoorBuild
import Derived.Deep.RegionHeld3
import Derived.OrdersIn
import Derived.RangeFuncCalls
namespace Go.Proofs.YtefdjdipbnnoaaaGreatDoor
open Go Go.RowKit
set_option linter.unusedVariables false

section
variable {P : Program} {ops : Array Oper} {Q : Exit → Act → World → Prop} {S : World → Prop} {fuel : Nat} {listed : Array Bool} {a : Act} {w : World}
/-- An operation that only computes or reads comes first. -/
theorem take_first (i : Nat) {oi : Oper} {v : Value} (hi : ops[i]? = some oi) (hs : Region.noSelect ops = true) (hf : Region.free .any ops listed i = true) (hr : (Region.ready .any ops listed).contains i = true)
    (hQ : ∀ c a w, Q (.panic c) (a.put oi.dst v) w → Q (.panic c) a w) (hw : Region.wanted oi (yielded ops a.tmps) = true) (hy : ∀ w, S w → (execOp a.eval oi).run P w = .ok (.value v) w) (hS : S w)
    (h : wpAnyH P .any ops Q S fuel (listed.setIfInBounds i true) (a.put oi.dst v) w) : wpAnyH P .any ops Q S (fuel + 1) listed a w :=
  wpAnyH_take hi hs hf hr hQ (.inl ⟨hw, hy⟩) hS h
/-- One operation alone may come up. -/
theorem one_next (i : Nat) {oi : Oper} (hr : Region.ready .any ops listed = [i]) (hi : ops[i]? = some oi) (hw : Region.wanted oi (yielded ops a.tmps) = true)
    (h : ∀ K : Act → World → Prop, (∀ a w, S w → wpAnyH P .any ops Q S fuel (listed.setIfInBounds i true) a w → K a w) → oi.wp P a w K Q) : wpAnyH P .any ops Q S (fuel + 1) listed a w :=
  wpAnyH_all hr (by simp) fun j hj => by
    obtain rfl := List.mem_singleton.1 hj
    unfold wpOp
    simp only [hi, hw, if_true]
    exact .inl (h _ fun a' w' hS' hW => ⟨hS', hW⟩)
/-- One of two operations comes up. -/
theorem two_next (i j : Nat) {oi oj : Oper} (hr : Region.ready .any ops listed = [i, j]) (hi : ops[i]? = some oi) (hj : ops[j]? = some oj) (hwi : Region.wanted oi (yielded ops a.tmps) = true) (hwj : Region.wanted oj (yielded ops a.tmps) = true)
    (h1 : ∀ K : Act → World → Prop, (∀ a w, S w → wpAnyH P .any ops Q S fuel (listed.setIfInBounds i true) a w → K a w) → oi.wp P a w K Q)
    (h2 : ∀ K : Act → World → Prop, (∀ a w, S w → wpAnyH P .any ops Q S fuel (listed.setIfInBounds j true) a w → K a w) → oj.wp P a w K Q) : wpAnyH P .any ops Q S (fuel + 1) listed a w :=
  wpAnyH_all hr (by simp) fun k hk => by
    rcases List.mem_cons.1 hk with rfl | hk
    · unfold wpOp
      simp only [hi, hwi, if_true]
      exact .inl (h1 _ fun a' w' hS' hW => ⟨hS', hW⟩)
    · obtain rfl := List.mem_singleton.1 hk
      unfold wpOp
      simp only [hj, hwj, if_true]
      exact .inl (h2 _ fun a' w' hS' hW => ⟨hS', hW⟩)
/-- The operations without a 'defer'. -/
def noDefer (ops : Array Oper) : Bool := ops.all fun o => match o.op with | .defer _ => false | _ => true
theorem noDefer_spec {i : Nat} {o : Oper} (h : noDefer ops = true) (ho : ops[i]? = some o) : ∀ c, o.op ≠ .defer c := by
  intro c hc
  unfold noDefer at h
  rw [Array.all_eq_true] at h
  have hlt := (Array.getElem?_eq_some_iff.1 ho).1
  have he := (Array.getElem?_eq_some_iff.1 ho).2
  have := h i hlt
  rw [he, hc] at this
  cases this
theorem wpIn_of_wp_wide {l n : Nat} {o : Oper} {K : Act → World → Prop} (hd : ∀ c, o.op ≠ .defer c) (h : o.wp P a w K Q) : o.wpIn (Fence.wide.inRound l) n P a w K Q := by
  refine ⟨fun f _ => trivial, ?_⟩
  rw [Oper.semAt_plain _ _ _ hd]
  unfold Oper.wp at h
  generalize (execOp a.eval o).run P w = r at h
  unfold Oper.upon at h
  unfold Oper.uponIn
  split at h
  · exact h
  · exact h
  · exact h
  · refine ⟨fun hs => by simp [Fence.wide] at hs, CallsIn.inRound l (callsIn_wide.2 (h.mono ?_))⟩
    intro e w'' he
    exact he
  · refine ⟨fun hs => by simp [Fence.wide] at hs, fun c cs _ => ?_⟩
    obtain ⟨v, w2, hR, hs⟩ := h c cs
    exact ⟨v, w2, hR, stepsIn_wide.2 hs⟩
  · exact h
  · exact h.elim
theorem wpAnyIn_of_wide {l n : Nat} (hd : noDefer ops = true) (hL : ¬ LetsOut Q) : ∀ (fuel : Nat) (listed : Array Bool) (a : Act) (w : World), wpAny P .any ops Q fuel listed a w → wpAnyIn (Fence.wide.inRound l) n P .any ops Q fuel listed a w
  | 0, _, _, _, h => h
  | fuel + 1, listed, a, w, h => ⟨h.1, fun i hi => by
      have h2 := h.2 i hi
      unfold wpOp at h2
      unfold wpOpIn
      cases ho : ops[i]? with
      | none => simp only [ho] at h2 ⊢; exact wpAnyIn_of_wide hd hL fuel _ _ _ h2
      | some o =>
        simp only [ho] at h2 ⊢
        split
        · rename_i hw
          rw [if_pos hw] at h2
          rcases h2 with h2 | h2
          · exact wpIn_of_wp_wide (noDefer_spec hd ho) (Oper.wp_mono (fun a' w' h' => wpAnyIn_of_wide hd hL fuel _ a' w' h') h2)
          · exact absurd h2.2 hL
        · rename_i hw
          rw [if_neg hw] at h2
          exact ⟨fun f _ => trivial, wpAnyIn_of_wide hd hL fuel _ _ _ h2⟩⟩
/-- A region in a round. -/
theorem wpIn_region_round {l n id : Nat} (hm : P.follows .mixedOrders = true) (hd : noDefer ops = true) (hL : ¬ LetsOut Q) (hS : S w.drew) (h : S w.drew → wpAnyH P .any ops Q S ops.size (Array.replicate ops.size false) a w.drew) :
    (Code.region id ops true).wpIn (Fence.wide.inRound l) n P Q a w :=
  wpIn_region_any hm (wpAnyIn_of_wide hd hL _ _ _ _ (wpAny_of_held _ _ _ _ (h hS)))
end
end Go.Proofs.YtefdjdipbnnoaaaGreatDoor

/-
  General lemmas that no program is named in: as wp_region_tab, and operations that write no slot (stores) may come up in any order too. No condition.
  General lemmas that no program is named in: a region that draws its order and ends in two stores, one behind the other; what stands may speak of the slots too. No condition.
-/
import Derived.Test.YtefdjdipbnnoaaaGreatDoorBase
namespace Go.Proofs.YtefdjdipbnnoaaaGreatDoor
open Go Go.RowKit
set_option linter.unusedVariables false

section
variable {P : Program} {ops : Array Oper} {Q : Exit → Act → World → Prop} {md : Region.Mode}
/-- No two operations write one slot, each writes within the frame, none has a guard. -/
def plainS (ops : Array Oper) (n k : Nat) : Bool :=
  (List.range ops.size).all fun i => ((ops[i]?).map (fun o => o.guard.isNone)).getD false && (match dstOf ops i with
    | none => true
    | some t => decide (t < n) && (List.range ops.size).all fun j => j == i || !(dstOf ops j == some t))
/-- THE SAME, TOLD BY VALUES: operation i leaves a value of which 'G i' holds, and a world that stands to the one that it met as 'R' says; R turns no 'G'. -/
theorem wp_region_valsS {id : Nat} {a0 : Act} {w0 : World} (hm : P.follows .mixedOrders = true) (k : Nat) (hk : lastB ops k = true) (hp : plainS ops a0.tmps.size k = true)
    (J : World → Prop) (R : World → World → Prop) (G : Nat → Value → World → Prop) (hG : ∀ i v w w', R w w' → G i v w → G i v w') (hJ : J w0.drew)
    (hops : ∀ i o, i < ops.size → i ≠ k → ops[i]? = some o → ∀ a w, J w → Agree ops k a0 a → (∀ j ∈ depsOf ops i, ∀ t, dstOf ops j = some t → G j (a.eval (.tmp t)) w) →
      o.wp P a w (fun a' w' => ∃ v, a' = a.put o.dst v ∧ R w w' ∧ J w' ∧ G i v w') Q)
    (htail : ∀ vs w o, J w → ops[k]? = some o → (∀ j t, j < ops.size → j ≠ k → dstOf ops j = some t → G j (vs j) w) → o.wp P (layAll ops k a0 vs) w (Q .normal) Q) : (Code.region id ops true).wp P Q a0 w0 := by
  simp only [plainS, List.all_eq_true, List.mem_range, Bool.and_eq_true] at hp
  have hguard : ∀ (i : Nat) (o : Oper), ops[i]? = some o → ∀ f, Region.wanted o f = true := by
    intro i o ho f
    have hlt : i < ops.size := (Array.getElem?_eq_some_iff.1 ho).1
    have := (hp i hlt).1
    simp only [ho, Option.map_some, Option.getD_some, Option.isNone_iff_eq_none] at this
    simp [Region.wanted, this]
  have hdst : ∀ i t, i < ops.size → dstOf ops i = some t → t < a0.tmps.size ∧ ∀ j, dstOf ops j = some t → j = i := by
    intro i t hi hd
    have h2 := (hp i hi).2
    rw [hd] at h2
    simp only [Bool.and_eq_true, decide_eq_true_eq, List.all_eq_true, List.mem_range, Bool.or_eq_true, beq_iff_eq, Bool.not_eq_true'] at h2
    refine ⟨h2.1, fun j hj => ?_⟩
    have hjl : j < ops.size := by
      rcases Nat.lt_or_ge j ops.size with h | h
      · exact h
      · simp [dstOf, Array.getElem?_eq_none h] at hj
    rcases h2.2 j hjl with h | h
    · exact h
    · rw [hj] at h; simp at h
  refine wp_region_facts hm k hk (fun a w => Agree ops k a0 a ∧ J w) (fun i a w => ∀ t, dstOf ops i = some t → G i (a.eval (.tmp t)) w) ⟨⟨rfl, rfl, fun _ _ => rfl⟩, hJ⟩ ?_ ?_
  · rintro i hi hik a w ⟨hA, hJw⟩ hd
    have ho : ops[i]? = some ops[i] := Array.getElem?_eq_getElem hi
    unfold wpOp
    simp only [ho]
    rw [if_pos (hguard i _ ho _)]
    refine .inl (Oper.wp_mono ?_ (hops i _ hi hik ho a w hJw hA hd))
    rintro a' w' ⟨v, rfl, hRw, hJ', hGv⟩
    have hdi : dstOf ops i = ops[i].dst := by simp [dstOf, ho]
    cases hdo : ops[i].dst with
    | none =>
      have hdn : dstOf ops i = none := hdi.trans hdo
      have hput : a.put none v = a := rfl
      rw [hput]
      refine ⟨⟨hA, hJ'⟩, fun s hs => ?_, fun j hj hGj s hs => hG _ _ _ _ hRw (hGj s hs)⟩
      rw [hdn] at hs
      cases hs
    | some t =>
    have ht : dstOf ops i = some t := hdi.trans hdo
    obtain ⟨htl, hu⟩ := hdst i t hi ht
    refine ⟨⟨⟨hA.defers, by simp [Act.put, hA.size], fun s hs => ?_⟩, hJ'⟩, fun s hs => ?_, fun j hj hGj s hs => ?_⟩
    · have : t ≠ s := fun e => hs i hik (by rw [ht, e])
      rw [put_slot, if_neg this, hA.slot s hs]
    · rw [ht] at hs
      cases hs
      have : (a.put (some t) v).eval (.tmp t) = v := by
        have := put_slot a t t v
        rw [if_pos rfl, if_pos (by rw [hA.size]; exact htl)] at this
        simp only [Act.eval, Array.getD_eq_getD_getElem?, this, Option.getD_some]
      rw [this]; exact hGv
    · have hne : t ≠ s := fun e => hj (hu j (by rw [hs, e]))
      have : (a.put (some t) v).eval (.tmp s) = a.eval (.tmp s) := by
        have := put_slot a t s v
        rw [if_neg hne] at this
        simp only [Act.eval, Array.getD_eq_getD_getElem?, this]
      rw [this]
      exact hG _ _ _ _ hRw (hGj s hs)
  · rintro a w ⟨hA, hJw⟩ hF
    have hk0 : k < ops.size := by
      simp only [lastB, Bool.and_eq_true, decide_eq_true_eq] at hk
      exact hk.1.1
    have ho : ops[k]? = some ops[k] := Array.getElem?_eq_getElem hk0
    unfold wpOp
    simp only [ho]
    rw [if_pos (hguard k _ ho _)]
    let vs : Nat → Value := fun i => match dstOf ops i with | some t => a.eval (.tmp t) | none => undef
    have hmem : ∀ i, i ∈ (List.range ops.size).filter (· != k) ↔ i < ops.size ∧ i ≠ k := by intro i; simp
    obtain ⟨l1, l2, l3, l4⟩ := layAll_slot (ops := ops) a0 vs ((List.range ops.size).filter (· != k)) (List.Pairwise.filter _ List.nodup_range) (by
      intro i hi j hj he hn
      cases ht : dstOf ops i with
      | none => exact absurd ht hn
      | some t => exact ((hdst i t ((hmem i).1 hi).1 ht).2 j (he.symm.trans ht)).symm)
    have e : a = layAll ops k a0 vs := by
      have ht : a.tmps = (layAll ops k a0 vs).tmps := by
        apply Array.ext_getElem?
        intro t
        by_cases hex : ∃ i, i < ops.size ∧ i ≠ k ∧ dstOf ops i = some t
        · obtain ⟨i, hi, hik, hd⟩ := hex
          obtain ⟨hlt, _⟩ := hdst i t hi hd
          have h5 := l3 i ((hmem i).2 ⟨hi, hik⟩) t hd hlt
          unfold layAll
          rw [h5]
          have hlt' : t < a.tmps.size := by rw [hA.size]; exact hlt
          simp only [vs, hd, Act.eval, Array.getD_eq_getD_getElem?, Array.getElem?_eq_getElem hlt', Option.getD_some]
        · have hno : ∀ i, i ≠ k → dstOf ops i ≠ some t := fun i hik hd => hex ⟨i, by
            rcases Nat.lt_or_ge i ops.size with h | h
            · exact h
            · simp [dstOf, Array.getElem?_eq_none h] at hd, hik, hd⟩
          rw [hA.slot t hno]
          exact (l4 t (fun i hi => hno i ((hmem i).1 hi).2)).symm
      have hdd : a.defers = (layAll ops k a0 vs).defers := hA.defers.trans l1.symm
      cases a
      simp only at ht hdd
      rw [ht, hdd]
    rw [e]
    refine .inl (htail vs w _ hJw ho fun j t hj hjk ht => ?_)
    have := hF j hj hjk t ht
    simpa only [vs, ht] using this

/-- 'E': the slot that each operation but 'k' writes, in the operations' order. 'D': for each operation some of those on which it waits, with their slots. 'K': slots that no operation writes. -/
def tabS (ops : Array Oper) (k : Nat) (E : List (Nat × Tmp)) (D : List (List (Nat × Tmp))) (K : List Tmp) : Bool :=
  (((List.range ops.size).filter (fun i => i != k && (dstOf ops i).isSome)).map fun i => (i, dstOf ops i)) == E.map (fun p => (p.1, some p.2)) &&
  ((List.range ops.size).all fun i => (D.getD i []).all fun p => (depsOf ops i).contains p.1 && dstOf ops p.1 == some p.2) &&
  K.all fun t => (List.range ops.size).all fun i => !(dstOf ops i == some t)
theorem wp_region_tabS {id : Nat} {a0 : Act} {w0 : World} {l : List Oper} (k : Nat) (E : List (Nat × Tmp)) (D : List (List (Nat × Tmp))) (K : List (Tmp × Value))
    (J : World → Prop) (R : World → World → Prop) (G : Nat → Value → World → Prop)
    (hm : P.follows .mixedOrders = true) (hk : lastB l.toArray k = true) (hp : plainS l.toArray a0.tmps.size k = true) (ht : tabS l.toArray k E D (K.map (·.1)) = true)
    (hK : ∀ p ∈ K, a0.tmps[p.1]?.getD undef = p.2) (hG : ∀ i v w w', R w w' → G i v w → G i v w') (hJ : J w0.drew)
    (hops : EachOp k (fun i o => ∀ a w, J w → (∀ p ∈ K, a.tmps[p.1]?.getD undef = p.2) → (∀ p ∈ D.getD i [], G p.1 (a.tmps[p.2]?.getD undef) w) →
      o.wp P a w (fun a' w' => ∃ v, a' = a.put o.dst v ∧ R w w' ∧ J w' ∧ G i v w') Q) 0 l)
    (htail : ∀ (vs : Nat → Value) w, J w → (∀ p ∈ E, G p.1 (vs p.1) w) → Wait (AtOp (fun o => o.wp P (E.foldl (fun a p => a.put (some p.2) (vs p.1)) a0) w (Q .normal) Q) k l)) :
    (Code.region id l.toArray true).wp P Q a0 w0 := by
  simp only [tabS, Bool.and_eq_true, beq_iff_eq, List.all_eq_true, List.mem_range, List.contains_iff_mem] at ht
  obtain ⟨⟨hE, hD⟩, hKt⟩ := ht
  refine wp_region_valsS hm k hk hp J R G hG hJ (fun i o hi hik ho a w hJw hA hd => ?_) (fun vs w o hJw ho hGv => ?_)
  · have h := EachOp.get l 0 i o hops (by simpa using ho) (by omega)
    rw [Nat.zero_add] at h
    refine h a w hJw (fun p hp' => ?_) (fun p hp' => ?_)
    · have := hA.eval p.1 (List.all_eq_true.2 fun i hi => hKt p.1 (List.mem_map.2 ⟨p, hp', rfl⟩) i (List.mem_range.1 hi))
      simp only [Act.eval, Array.getD_eq_getD_getElem?] at this
      rw [this]
      exact hK p hp'
    · obtain ⟨h1, h2⟩ := hD i hi p hp'
      have := hd p.1 h1 p.2 h2
      simpa only [Act.eval, Array.getD_eq_getD_getElem?] using this
  · have hGE : ∀ p ∈ E, G p.1 (vs p.1) w := by
      intro p hp'
      have : (p.1, some p.2) ∈ E.map (fun p => (p.1, some p.2)) := List.mem_map.2 ⟨p, hp', rfl⟩
      rw [← hE] at this
      obtain ⟨i, hi, he⟩ := List.mem_map.1 this
      simp only [List.mem_filter, List.mem_range, bne_iff_ne, ne_eq, Prod.mk.injEq, Bool.and_eq_true] at hi he
      rw [← he.1]
      exact hGv i p.2 hi.1 hi.2.1 he.2
    have h := AtOp.get l k o (htail vs w hJw hGE).out (by simpa using ho)
    have e : layAll l.toArray k a0 vs = E.foldl (fun a p => a.put (some p.2) (vs p.1)) a0 := by
      have hgen : ∀ (m : List Nat) (a : Act), (m.filter (· != k)).foldl (fun a i => a.put (dstOf l.toArray i) (vs i)) a =
          ((m.filter (fun i => i != k && (dstOf l.toArray i).isSome)).map fun i => (i, dstOf l.toArray i)).foldl (fun a p => a.put p.2 (vs p.1)) a := by
        intro m
        induction m with
        | nil => intro a; rfl
        | cons x m ih =>
          intro a
          by_cases hx : (x != k) = true
          · cases hd : dstOf l.toArray x with
            | none => rw [List.filter_cons_of_pos (by simpa using hx), List.filter_cons_of_neg (by simp [hd]), List.foldl_cons, hd]; exact ih a
            | some t => rw [List.filter_cons_of_pos (by simpa using hx), List.filter_cons_of_pos (by simp [hd]; simpa using hx), List.foldl_cons, List.map_cons, List.foldl_cons]; exact ih _
          · rw [List.filter_cons_of_neg (by simpa using hx), List.filter_cons_of_neg (by simp at hx; simp [hx])]; exact ih a
      unfold layAll
      rw [hgen, hE, List.foldl_map]
    rw [e]
    exact h
end

end Go.Proofs.YtefdjdipbnnoaaaGreatDoor

namespace Go.Proofs.YtefdjdipbnnoaaaGreatDoor
open Go Go.RowKit
set_option linter.unusedVariables false

section
variable {P : Program} {ops : Array Oper} {Q : Exit → Act → World → Prop} {md : Region.Mode}
/-- Operation 'k' waits for all others, operation 'm' for all but 'k', and 'm' leaves no value. -/
def last2 (ops : Array Oper) (k m : Nat) : Bool :=
  lastB ops k && decide (m < ops.size) && (m != k) && (dstOf ops m).isNone && (let c := closeOf ops ops.size (depsOf ops m); (List.range ops.size).all fun j => j == k || j == m || c.contains j)
/-- EVERY ORDER, BY FACTS, with two operations that come last. -/
theorem wp_region_facts2 {id : Nat} {a0 : Act} {w0 : World} (hm : P.follows .mixedOrders = true) (k m : Nat) (hk2 : last2 ops k m = true) (J : Act → World → Prop) (F : Nat → Act → World → Prop)
    (hJ : J a0 w0.drew)
    (hops : ∀ i, i < ops.size → i ≠ k → i ≠ m → ∀ a w, J a w → (∀ j ∈ depsOf ops i, F j a w) → wpOp P ops Q i (fun a' w' => J a' w' ∧ F i a' w' ∧ ∀ j, j ≠ i → F j a w → F j a' w') a w)
    (hmid : ∀ a w, J a w → (∀ j, j < ops.size → j ≠ k → j ≠ m → F j a w) → wpOp P ops Q m (fun a w => wpOp P ops Q k (Q .normal) a w) a w) : (Code.region id ops true).wp P Q a0 w0 := by
  simp only [last2, Bool.and_eq_true, decide_eq_true_eq, List.all_eq_true, List.mem_range, Bool.or_eq_true, beq_iff_eq, bne_iff_ne, List.contains_iff_mem] at hk2
  obtain ⟨⟨⟨⟨hk, hm0⟩, hmk⟩, _⟩, hmall⟩ := hk2
  simp only [lastB, Bool.and_eq_true, decide_eq_true_eq, List.all_eq_true, List.mem_range, Bool.or_eq_true, beq_iff_eq, List.contains_iff_mem] at hk
  obtain ⟨⟨hk0, hk⟩, hback⟩ := hk
  have others : ∀ listed : Array Bool, listed.size = ops.size → (∀ i, listed.getD i false = true → ∀ j ∈ depsOf ops i, listed.getD j false = true) → (∀ j ∈ depsOf ops k, listed.getD j false = true) → ∀ j, j < ops.size → j ≠ k → listed.getD j false = true := by
    intro listed _ hd hdk j hj hjk
    exact mem_closeOf (S := fun j => listed.getD j false = true) hd ops.size _ hdk j ((hk j hj).resolve_left hjk)
  have others2 : ∀ listed : Array Bool, listed.size = ops.size → (∀ i, listed.getD i false = true → ∀ j ∈ depsOf ops i, listed.getD j false = true) → (∀ j ∈ depsOf ops m, listed.getD j false = true) → ∀ j, j < ops.size → j ≠ k → j ≠ m → listed.getD j false = true := by
    intro listed _ hd hdk j hj hjk hjm
    refine mem_closeOf (S := fun j => listed.getD j false = true) hd ops.size _ hdk j ?_
    rcases hmall j hj with (h | h) | h
    · exact absurd h hjk
    · exact absurd h hjm
    · exact h
  refine wp_region_any hm (wpAny_inv (fun listed a w => listed.size = ops.size ∧ (∀ i, listed.getD i false = true → ∀ j ∈ depsOf ops i, listed.getD j false = true) ∧
      (if listed.getD k false = true then (∀ j, j < ops.size → listed.getD j false = true) ∧ Q .normal a w
        else if listed.getD m false = true then (∀ j, j < ops.size → j ≠ k → listed.getD j false = true) ∧ wpOp P ops Q k (Q .normal) a w
        else J a w ∧ ∀ j, listed.getD j false = true → F j a w)) ?_ ?_ _ _ _ _ (by simp) ?_ ?_)
  · rintro listed a w i ⟨hs, hd, hI⟩ hi
    have hdi := deps_of_ready hi
    obtain ⟨h0, o, ho, _⟩ := mem_ready.1 hi
    have hlt : i < ops.size := (Array.getElem?_eq_some_iff.1 ho).1
    have hun : listed.getD i false = false := by
      have : i < listed.size := by omega
      simp [this] at h0 ⊢
      exact h0
    have hset : (listed.setIfInBounds i true).getD i false = true := by
      have : i < listed.size := by omega
      simp [this]
    have hd' : ∀ x, (listed.setIfInBounds i true).getD x false = true → ∀ j ∈ depsOf ops x, (listed.setIfInBounds i true).getD j false = true := by
      intro x hx j hj
      by_cases e : i = x
      · subst e; exact getD_set_true (hdi j hj)
      · rw [getD_set_ne false e] at hx; exact getD_set_true (hd x hx j hj)
    by_cases hkl : listed.getD k false = true
    · rw [if_pos hkl] at hI
      have := hI.1 i hlt
      rw [hun] at this; cases this
    · rw [if_neg hkl] at hI
      by_cases hml : listed.getD m false = true
      · rw [if_pos hml] at hI
        have e : i = k := by
          rcases Nat.decEq i k with h | h
          · have := hI.1 i hlt h
            rw [hun] at this; cases this
          · exact h
        subst e
        refine wpOp_mono (fun a' w' h => ⟨by simpa using hs, hd', ?_⟩) hI.2
        rw [if_pos hset]
        refine ⟨fun j hj => ?_, h⟩
        by_cases e : i = j
        · subst e; exact hset
        · exact getD_set_true (hI.1 j hj (Ne.symm e))
      · rw [if_neg hml] at hI
        by_cases e : i = k
        · subst e
          exact absurd (others listed hs hd hdi m hm0 hmk) hml
        by_cases e2 : i = m
        · subst e2
          have hoth := others2 listed hs hd hdi
          refine wpOp_mono (fun a' w' h => ⟨by simpa using hs, hd', ?_⟩) (hmid a w hI.1 fun j hj hne hne2 => hI.2 j (hoth j hj hne hne2))
          rw [if_neg (by rw [getD_set_ne false e]; exact hkl), if_pos hset]
          refine ⟨fun j hj hne => ?_, h⟩
          by_cases e : i = j
          · subst e; exact hset
          · exact getD_set_true (hoth j hj hne (Ne.symm e))
        · refine wpOp_mono (fun a' w' h => ⟨by simpa using hs, hd', ?_⟩) (hops i hlt e e2 a w hI.1 fun j hj => hI.2 j (hdi j hj))
          rw [if_neg (by rw [getD_set_ne false e]; exact hkl), if_neg (by rw [getD_set_ne false e2]; exact hml)]
          refine ⟨h.1, fun j hj => ?_⟩
          by_cases e' : i = j
          · subst e'; exact h.2.1
          · rw [getD_set_ne false e'] at hj
            exact h.2.2 j (Ne.symm e') (hI.2 j hj)
  · rintro listed a w ⟨hs, hd, hI⟩ hr
    by_cases hkl : listed.getD k false = true
    · rw [if_pos hkl] at hI; exact hI.2
    · exfalso
      have all : ∀ i, i < ops.size → listed.getD i false = true := by
        intro i
        induction i using Nat.strongRecOn with
        | ind i ih =>
          intro hi
          cases hl : listed.getD i false with
          | true => rfl
          | false =>
            exfalso
            have hmem : i ∈ Region.ready .any ops listed := by
              refine mem_ready.2 ⟨?_, ops[i], Array.getElem?_eq_getElem hi, fun e he hb => ?_⟩
              · have : i < listed.size := by omega
                simp [this] at hl ⊢
                exact hl
              · have hj : e.on ∈ depsOf ops i := by
                  simp only [depsOf, Array.getElem?_eq_getElem hi, Option.map_some, Option.getD_some, List.mem_map, List.mem_filter]
                  exact ⟨e, ⟨by simpa using he, hb⟩, rfl⟩
                have hlt := hback i hi e.on hj
                exact ih e.on hlt (by omega)
            rw [hr] at hmem
            cases hmem
      exact hkl (all k hk0)
  · have : (Array.replicate ops.size false).toList.count false = ops.size := by simp
    omega
  · refine ⟨by simp, fun i hi => ?_, ?_⟩
    · exfalso
      rcases Nat.lt_or_ge i ops.size with h | h <;> simp [h] at hi
    · rw [if_neg (by rcases Nat.lt_or_ge k ops.size with h | h <;> simp [h]), if_neg (by rcases Nat.lt_or_ge m ops.size with h | h <;> simp [h])]
      refine ⟨hJ, fun j hj => ?_⟩
      exfalso
      rcases Nat.lt_or_ge j ops.size with h | h <;> simp [h] at hj
/-- THE SAME, TOLD BY VALUES: operation i leaves a value of which 'G i' holds, and a world that stands to the one that it met as 'R' says; R turns no 'G'. -/
theorem wp_region_vals2 {id : Nat} {a0 : Act} {w0 : World} (hm : P.follows .mixedOrders = true) (k m : Nat) (hk : last2 ops k m = true) (hp : plainS ops a0.tmps.size k = true)
    (J : Act → World → Prop) (R : World → World → Prop) (G : Nat → Value → World → Prop) (hG : ∀ i v w w', R w w' → G i v w → G i v w') (hJ : J a0 w0.drew)
    (hops : ∀ i o, i < ops.size → i ≠ k → i ≠ m → ops[i]? = some o → ∀ a w, J a w → Agree ops k a0 a → (∀ j ∈ depsOf ops i, ∀ t, dstOf ops j = some t → G j (a.eval (.tmp t)) w) →
      o.wp P a w (fun a' w' => ∃ v, a' = a.put o.dst v ∧ R w w' ∧ J a' w' ∧ G i v w') Q)
    (htail : ∀ vs w o o', J (layAll ops k a0 vs) w → ops[m]? = some o → ops[k]? = some o' → (∀ j t, j < ops.size → j ≠ k → dstOf ops j = some t → G j (vs j) w) → o.wp P (layAll ops k a0 vs) w (fun a w => o'.wp P a w (Q .normal) Q) Q) : (Code.region id ops true).wp P Q a0 w0 := by
  simp only [plainS, List.all_eq_true, List.mem_range, Bool.and_eq_true] at hp
  have hguard : ∀ (i : Nat) (o : Oper), ops[i]? = some o → ∀ f, Region.wanted o f = true := by
    intro i o ho f
    have hlt : i < ops.size := (Array.getElem?_eq_some_iff.1 ho).1
    have := (hp i hlt).1
    simp only [ho, Option.map_some, Option.getD_some, Option.isNone_iff_eq_none] at this
    simp [Region.wanted, this]
  have hdst : ∀ i t, i < ops.size → dstOf ops i = some t → t < a0.tmps.size ∧ ∀ j, dstOf ops j = some t → j = i := by
    intro i t hi hd
    have h2 := (hp i hi).2
    rw [hd] at h2
    simp only [Bool.and_eq_true, decide_eq_true_eq, List.all_eq_true, List.mem_range, Bool.or_eq_true, beq_iff_eq, Bool.not_eq_true'] at h2
    refine ⟨h2.1, fun j hj => ?_⟩
    have hjl : j < ops.size := by
      rcases Nat.lt_or_ge j ops.size with h | h
      · exact h
      · simp [dstOf, Array.getElem?_eq_none h] at hj
    rcases h2.2 j hjl with h | h
    · exact h
    · rw [hj] at h; simp at h
  refine wp_region_facts2 hm k m hk (fun a w => Agree ops k a0 a ∧ J a w) (fun i a w => ∀ t, dstOf ops i = some t → G i (a.eval (.tmp t)) w) ⟨⟨rfl, rfl, fun _ _ => rfl⟩, hJ⟩ ?_ ?_
  · rintro i hi hik him a w ⟨hA, hJw⟩ hd
    have ho : ops[i]? = some ops[i] := Array.getElem?_eq_getElem hi
    unfold wpOp
    simp only [ho]
    rw [if_pos (hguard i _ ho _)]
    refine .inl (Oper.wp_mono ?_ (hops i _ hi hik him ho a w hJw hA hd))
    rintro a' w' ⟨v, rfl, hRw, hJ', hGv⟩
    have hdi : dstOf ops i = ops[i].dst := by simp [dstOf, ho]
    cases hdo : ops[i].dst with
    | none =>
      have hdn : dstOf ops i = none := hdi.trans hdo
      have hput : a.put none v = a := rfl
      rw [hput]
      rw [hdo] at hJ'
      refine ⟨⟨hA, hJ'⟩, fun s hs => ?_, fun j hj hGj s hs => hG _ _ _ _ hRw (hGj s hs)⟩
      rw [hdn] at hs
      cases hs
    | some t =>
    rw [hdo] at hJ'
    have ht : dstOf ops i = some t := hdi.trans hdo
    obtain ⟨htl, hu⟩ := hdst i t hi ht
    refine ⟨⟨⟨hA.defers, by simp [Act.put, hA.size], fun s hs => ?_⟩, hJ'⟩, fun s hs => ?_, fun j hj hGj s hs => ?_⟩
    · have : t ≠ s := fun e => hs i hik (by rw [ht, e])
      rw [put_slot, if_neg this, hA.slot s hs]
    · rw [ht] at hs
      cases hs
      have : (a.put (some t) v).eval (.tmp t) = v := by
        have := put_slot a t t v
        rw [if_pos rfl, if_pos (by rw [hA.size]; exact htl)] at this
        simp only [Act.eval, Array.getD_eq_getD_getElem?, this, Option.getD_some]
      rw [this]; exact hGv
    · have hne : t ≠ s := fun e => hj (hu j (by rw [hs, e]))
      have : (a.put (some t) v).eval (.tmp s) = a.eval (.tmp s) := by
        have := put_slot a t s v
        rw [if_neg hne] at this
        simp only [Act.eval, Array.getD_eq_getD_getElem?, this]
      rw [this]
      exact hG _ _ _ _ hRw (hGj s hs)
  · rintro a w ⟨hA, hJw⟩ hF
    simp only [last2, lastB, Bool.and_eq_true, decide_eq_true_eq, Option.isNone_iff_eq_none] at hk
    have hk0 : k < ops.size := hk.1.1.1.1.1.1
    have hm0 : m < ops.size := hk.1.1.1.2
    have hmd : dstOf ops m = none := hk.1.2
    have ho : ops[m]? = some ops[m] := Array.getElem?_eq_getElem hm0
    have ho' : ops[k]? = some ops[k] := Array.getElem?_eq_getElem hk0
    unfold wpOp
    simp only [ho, ho']
    rw [if_pos (hguard m _ ho _)]
    let vs : Nat → Value := fun i => match dstOf ops i with | some t => a.eval (.tmp t) | none => undef
    have hmem : ∀ i, i ∈ (List.range ops.size).filter (· != k) ↔ i < ops.size ∧ i ≠ k := by intro i; simp
    obtain ⟨l1, l2, l3, l4⟩ := layAll_slot (ops := ops) a0 vs ((List.range ops.size).filter (· != k)) (List.Pairwise.filter _ List.nodup_range) (by
      intro i hi j hj he hn
      cases ht : dstOf ops i with
      | none => exact absurd ht hn
      | some t => exact ((hdst i t ((hmem i).1 hi).1 ht).2 j (he.symm.trans ht)).symm)
    have e : a = layAll ops k a0 vs := by
      have ht : a.tmps = (layAll ops k a0 vs).tmps := by
        apply Array.ext_getElem?
        intro t
        by_cases hex : ∃ i, i < ops.size ∧ i ≠ k ∧ dstOf ops i = some t
        · obtain ⟨i, hi, hik, hd⟩ := hex
          obtain ⟨hlt, _⟩ := hdst i t hi hd
          have h5 := l3 i ((hmem i).2 ⟨hi, hik⟩) t hd hlt
          unfold layAll
          rw [h5]
          have hlt' : t < a.tmps.size := by rw [hA.size]; exact hlt
          simp only [vs, hd, Act.eval, Array.getD_eq_getD_getElem?, Array.getElem?_eq_getElem hlt', Option.getD_some]
        · have hno : ∀ i, i ≠ k → dstOf ops i ≠ some t := fun i hik hd => hex ⟨i, by
            rcases Nat.lt_or_ge i ops.size with h | h
            · exact h
            · simp [dstOf, Array.getElem?_eq_none h] at hd, hik, hd⟩
          rw [hA.slot t hno]
          exact (l4 t (fun i hi => hno i ((hmem i).1 hi).2)).symm
      have hdd : a.defers = (layAll ops k a0 vs).defers := hA.defers.trans l1.symm
      cases a
      simp only at ht hdd
      rw [ht, hdd]
    rw [e]
    refine .inl (Oper.wp_mono (fun a w h => by rw [if_pos (hguard k _ ho' _)]; exact .inl h) (htail vs w _ _ (by rw [← e]; exact hJw) ho ho' fun j t hj hjk ht => ?_))
    have := hF j hj hjk (fun h => by subst h; rw [hmd] at ht; cases ht) t ht
    simpa only [vs, ht] using this

theorem wp_region_tab2 {id : Nat} {a0 : Act} {w0 : World} {l : List Oper} (k m : Nat) (E : List (Nat × Tmp)) (D : List (List (Nat × Tmp))) (K : List (Tmp × Value))
    (J : Act → World → Prop) (R : World → World → Prop) (G : Nat → Value → World → Prop)
    (hm : P.follows .mixedOrders = true) (hk : last2 l.toArray k m = true) (hp : plainS l.toArray a0.tmps.size k = true) (ht : tabS l.toArray k E D (K.map (·.1)) = true)
    (hK : ∀ p ∈ K, a0.tmps[p.1]?.getD undef = p.2) (hG : ∀ i v w w', R w w' → G i v w → G i v w') (hJ : J a0 w0.drew)
    (hops : EachOp k (fun i o => i ≠ m → ∀ a w, J a w → (∀ p ∈ K, a.tmps[p.1]?.getD undef = p.2) → (∀ p ∈ D.getD i [], G p.1 (a.tmps[p.2]?.getD undef) w) →
      o.wp P a w (fun a' w' => ∃ v, a' = a.put o.dst v ∧ R w w' ∧ J a' w' ∧ G i v w') Q) 0 l)
    (htail : ∀ (vs : Nat → Value) w, J (E.foldl (fun a p => a.put (some p.2) (vs p.1)) a0) w → (∀ p ∈ E, G p.1 (vs p.1) w) → Wait (AtOp (fun o => AtOp (fun o' => o.wp P (E.foldl (fun a p => a.put (some p.2) (vs p.1)) a0) w (fun a w => o'.wp P a w (Q .normal) Q) Q) k l) m l)) :
    (Code.region id l.toArray true).wp P Q a0 w0 := by
  simp only [tabS, Bool.and_eq_true, beq_iff_eq, List.all_eq_true, List.mem_range, List.contains_iff_mem] at ht
  obtain ⟨⟨hE, hD⟩, hKt⟩ := ht
  refine wp_region_vals2 hm k m hk hp J R G hG hJ (fun i o hi hik him ho a w hJw hA hd => ?_) (fun vs w o o' hJw ho ho' hGv => ?_)
  · have h := EachOp.get l 0 i o hops (by simpa using ho) (by omega)
    rw [Nat.zero_add] at h
    refine h him a w hJw (fun p hp' => ?_) (fun p hp' => ?_)
    · have := hA.eval p.1 (List.all_eq_true.2 fun i hi => hKt p.1 (List.mem_map.2 ⟨p, hp', rfl⟩) i (List.mem_range.1 hi))
      simp only [Act.eval, Array.getD_eq_getD_getElem?] at this
      rw [this]
      exact hK p hp'
    · obtain ⟨h1, h2⟩ := hD i hi p hp'
      have := hd p.1 h1 p.2 h2
      simpa only [Act.eval, Array.getD_eq_getD_getElem?] using this
  · have hGE : ∀ p ∈ E, G p.1 (vs p.1) w := by
      intro p hp'
      have : (p.1, some p.2) ∈ E.map (fun p => (p.1, some p.2)) := List.mem_map.2 ⟨p, hp', rfl⟩
      rw [← hE] at this
      obtain ⟨i, hi, he⟩ := List.mem_map.1 this
      simp only [List.mem_filter, List.mem_range, bne_iff_ne, ne_eq, Prod.mk.injEq, Bool.and_eq_true] at hi he
      rw [← he.1]
      exact hGv i p.2 hi.1 hi.2.1 he.2
    have e : layAll l.toArray k a0 vs = E.foldl (fun a p => a.put (some p.2) (vs p.1)) a0 := by
      have hgen : ∀ (m : List Nat) (a : Act), (m.filter (· != k)).foldl (fun a i => a.put (dstOf l.toArray i) (vs i)) a =
          ((m.filter (fun i => i != k && (dstOf l.toArray i).isSome)).map fun i => (i, dstOf l.toArray i)).foldl (fun a p => a.put p.2 (vs p.1)) a := by
        intro m
        induction m with
        | nil => intro a; rfl
        | cons x m ih =>
          intro a
          by_cases hx : (x != k) = true
          · cases hd : dstOf l.toArray x with
            | none => rw [List.filter_cons_of_pos (by simpa using hx), List.filter_cons_of_neg (by simp [hd]), List.foldl_cons, hd]; exact ih a
            | some t => rw [List.filter_cons_of_pos (by simpa using hx), List.filter_cons_of_pos (by simp [hd]; simpa using hx), List.foldl_cons, List.map_cons, List.foldl_cons]; exact ih _
          · rw [List.filter_cons_of_neg (by simpa using hx), List.filter_cons_of_neg (by simp at hx; simp [hx])]; exact ih a
      unfold layAll
      rw [hgen, hE, List.foldl_map]
    have h := AtOp.get l k o' (AtOp.get l m o (htail vs w (by rw [← e]; exact hJw) hGE).out (by simpa using ho)) (by simpa using ho')
    rw [e]
    exact h
end

end Go.Proofs.YtefdjdipbnnoaaaGreatDoor

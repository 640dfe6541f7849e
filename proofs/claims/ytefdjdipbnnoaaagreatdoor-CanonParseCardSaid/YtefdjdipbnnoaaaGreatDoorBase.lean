/-
  General lemmas that no program is named in: a rule for a region whose operations may come in any order, told by what each operation leaves; words for blocks and slices. No condition.
-/
import Derived.WalkKit
import Derived.WalkSpells
import Derived.WalkLawsBesides
import Derived.BigQuiet
import Derived.Deep.RegionHeld3
import Derived.Deep.LoopGhost
import Derived.Deep.DeepCutAuto
import Derived.Lib.Hide
import Derived.Deep.MidRow
import Derived.ChangeOld
import Derived.Maps.AppendAt
namespace Go.Proofs.YtefdjdipbnnoaaaGreatDoor
open Go Go.RowKit

/-! ### A region whose operations come up in any order -/
section
variable {P : Program} {ops : Array Oper} {Q : Exit → Act → World → Prop} {md : Region.Mode}

theorem count_set {l : List Bool} {i : Nat} (h : l[i]? = some false) : (l.set i true).count false + 1 = l.count false := by
  induction l generalizing i with
  | nil => simp at h
  | cons b l ih =>
    cases i with
    | zero => simp at h; subst h; simp
    | succ i => simp at h; have := ih h; simp only [List.set_cons_succ, List.count_cons]; omega

/-- An invariant of what has come up so far serves every order. -/
theorem wpAny_inv (I : Array Bool → Act → World → Prop)
    (hstep : ∀ listed a w i, I listed a w → i ∈ Region.ready md ops listed → wpOp P ops Q i (I (listed.setIfInBounds i true)) a w)
    (hdone : ∀ listed a w, I listed a w → Region.ready md ops listed = [] → Q .normal a w) :
    ∀ (fuel : Nat) (listed : Array Bool) (a : Act) (w : World), listed.size = ops.size → listed.toList.count false ≤ fuel → I listed a w → wpAny P md ops Q fuel listed a w := by
  intro fuel
  induction fuel with
  | zero =>
    intro listed a w hs hc hI
    have hr : Region.ready md ops listed = [] := by
      cases hr : Region.ready md ops listed with
      | nil => rfl
      | cons i l =>
        have hi : i ∈ Region.ready md ops listed := by rw [hr]; simp
        obtain ⟨h0, o, ho, _⟩ := mem_ready.1 hi
        have hlt : i < listed.size := by rw [hs]; exact (Array.getElem?_eq_some_iff.1 ho).1
        have h1 : listed.toList[i]? = some false := by
          simp only [Array.getElem?_toList]
          simp [hlt] at h0 ⊢
          exact h0
        have := count_set h1
        omega
    exact ⟨hr, hdone _ _ _ hI hr⟩
  | succ fuel ih =>
    intro listed a w hs hc hI
    refine ⟨fun hr => hdone _ _ _ hI hr, fun i hi => wpOp_mono (fun a' w' h => ih _ _ _ (by simpa using hs) ?_ h) (hstep _ _ _ _ hI hi)⟩
    obtain ⟨h0, o, ho, _⟩ := mem_ready.1 hi
    have hlt : i < listed.size := by rw [hs]; exact (Array.getElem?_eq_some_iff.1 ho).1
    have h1 : listed.toList[i]? = some false := by
      simp only [Array.getElem?_toList]
      simp [hlt] at h0 ⊢
      exact h0
    have := count_set h1
    simp only [Array.toList_setIfInBounds] at *
    omega

/-- On which operations does operation 'i' wait? -/
def depsOf (ops : Array Oper) (i : Nat) : List Nat := ((ops[i]?).map fun o => (o.after.toList.filter (Region.binds .any)).map (·.on)).getD []
/-- All on which it waits, through others too. -/
def closeOf (ops : Array Oper) : Nat → List Nat → List Nat
  | 0, l => l
  | n + 1, l => closeOf ops n (l ++ (l.flatMap (depsOf ops)).filter (! l.contains ·))
/-- Operation 'k' waits for all others. -/
def lastB (ops : Array Oper) (k : Nat) : Bool :=
  let c := closeOf ops ops.size (depsOf ops k)
  decide (k < ops.size) && ((List.range ops.size).all fun j => j == k || c.contains j) && (List.range ops.size).all fun i => (depsOf ops i).all fun j => decide (j < i)

theorem mem_closeOf {ops : Array Oper} {S : Nat → Prop} (hS : ∀ i, S i → ∀ j ∈ depsOf ops i, S j) : ∀ (n : Nat) (l : List Nat), (∀ i ∈ l, S i) → ∀ i ∈ closeOf ops n l, S i
  | 0, _, h, i, hi => h i hi
  | n + 1, l, h, i, hi => mem_closeOf hS n _ (by
      intro i hi
      rcases List.mem_append.1 hi with hi | hi
      · exact h i hi
      · obtain ⟨hi, _⟩ := List.mem_filter.1 hi
        obtain ⟨k, hk, hki⟩ := List.mem_flatMap.1 hi
        exact hS k (h k hk) i hki) i hi

theorem deps_of_ready {i : Nat} {listed : Array Bool} (h : i ∈ Region.ready .any ops listed) : ∀ j ∈ depsOf ops i, listed.getD j false = true := by
  obtain ⟨_, o, ho, hall⟩ := mem_ready.1 h
  intro j hj
  simp only [depsOf, ho, Option.map_some, Option.getD_some, List.mem_map, List.mem_filter] at hj
  obtain ⟨e, ⟨he, hb⟩, rfl⟩ := hj
  exact hall e (by simpa using he) hb

/-- EVERY ORDER, BY FACTS: operation i, carried out, leaves 'F i'; what the others have left stays true. Operation 'k' waits for all others: it comes last. -/
theorem wp_region_facts {id : Nat} {a0 : Act} {w0 : World} (hm : P.follows .mixedOrders = true) (k : Nat) (hk : lastB ops k = true) (J : Act → World → Prop) (F : Nat → Act → World → Prop)
    (hJ : J a0 w0.drew)
    (hops : ∀ i, i < ops.size → i ≠ k → ∀ a w, J a w → (∀ j ∈ depsOf ops i, F j a w) → wpOp P ops Q i (fun a' w' => J a' w' ∧ F i a' w' ∧ ∀ j, j ≠ i → F j a w → F j a' w') a w)
    (htail : ∀ a w, J a w → (∀ j, j < ops.size → j ≠ k → F j a w) → wpOp P ops Q k (Q .normal) a w) : (Code.region id ops true).wp P Q a0 w0 := by
  simp only [lastB, Bool.and_eq_true, decide_eq_true_eq, List.all_eq_true, List.mem_range, Bool.or_eq_true, beq_iff_eq, List.contains_iff_mem] at hk
  obtain ⟨⟨hk0, hk⟩, hback⟩ := hk
  have others : ∀ listed : Array Bool, listed.size = ops.size → (∀ i, listed.getD i false = true → ∀ j ∈ depsOf ops i, listed.getD j false = true) → (∀ j ∈ depsOf ops k, listed.getD j false = true) → ∀ j, j < ops.size → j ≠ k → listed.getD j false = true := by
    intro listed _ hd hdk j hj hjk
    exact mem_closeOf (S := fun j => listed.getD j false = true) hd ops.size _ hdk j ((hk j hj).resolve_left hjk)
  refine wp_region_any hm (wpAny_inv (fun listed a w => listed.size = ops.size ∧ (∀ i, listed.getD i false = true → ∀ j ∈ depsOf ops i, listed.getD j false = true) ∧
      (if listed.getD k false = true then (∀ j, j < ops.size → listed.getD j false = true) ∧ Q .normal a w else J a w ∧ ∀ j, listed.getD j false = true → F j a w)) ?_ ?_ _ _ _ _ (by simp) ?_ ?_)
  · rintro listed a w i ⟨hs, hd, hI⟩ hi
    have hdi := deps_of_ready hi
    obtain ⟨h0, o, ho, _⟩ := mem_ready.1 hi
    have hlt : i < ops.size := (Array.getElem?_eq_some_iff.1 ho).1
    have hun : listed.getD i false = false := by
      have : i < listed.size := by omega
      simp [this] at h0 ⊢
      exact h0
    have hset : (listed.setIfInBounds i true).getD i false = true := by
      have : i < listed.size := by omega
      simp [this]
    have hd' : ∀ x, (listed.setIfInBounds i true).getD x false = true → ∀ j ∈ depsOf ops x, (listed.setIfInBounds i true).getD j false = true := by
      intro x hx j hj
      by_cases e : i = x
      · subst e; exact getD_set_true (hdi j hj)
      · rw [getD_set_ne false e] at hx; exact getD_set_true (hd x hx j hj)
    by_cases hkl : listed.getD k false = true
    · rw [if_pos hkl] at hI
      have := hI.1 i hlt
      rw [hun] at this; cases this
    · rw [if_neg hkl] at hI
      by_cases e : i = k
      · subst e
        have hoth := others listed hs hd hdi
        refine wpOp_mono (fun a' w' h => ⟨by simpa using hs, hd', ?_⟩) (htail a w hI.1 fun j hj hne => hI.2 j (hoth j hj hne))
        rw [if_pos hset]
        refine ⟨fun j hj => ?_, h⟩
        by_cases e : i = j
        · subst e; exact hset
        · exact getD_set_true (hoth j hj (Ne.symm e))
      · refine wpOp_mono (fun a' w' h => ⟨by simpa using hs, hd', ?_⟩) (hops i hlt e a w hI.1 fun j hj => hI.2 j (hdi j hj))
        rw [if_neg (by rw [getD_set_ne false e]; exact hkl)]
        refine ⟨h.1, fun j hj => ?_⟩
        by_cases e' : i = j
        · subst e'; exact h.2.1
        · rw [getD_set_ne false e'] at hj
          exact h.2.2 j (Ne.symm e') (hI.2 j hj)
  · rintro listed a w ⟨hs, hd, hI⟩ hr
    by_cases hkl : listed.getD k false = true
    · rw [if_pos hkl] at hI; exact hI.2
    · exfalso
      have all : ∀ i, i < ops.size → listed.getD i false = true := by
        intro i
        induction i using Nat.strongRecOn with
        | ind i ih =>
          intro hi
          cases hl : listed.getD i false with
          | true => rfl
          | false =>
            exfalso
            have hmem : i ∈ Region.ready .any ops listed := by
              refine mem_ready.2 ⟨?_, ops[i], Array.getElem?_eq_getElem hi, fun e he hb => ?_⟩
              · have : i < listed.size := by omega
                simp [this] at hl ⊢
                exact hl
              · have hj : e.on ∈ depsOf ops i := by
                  simp only [depsOf, Array.getElem?_eq_getElem hi, Option.map_some, Option.getD_some, List.mem_map, List.mem_filter]
                  exact ⟨e, ⟨by simpa using he, hb⟩, rfl⟩
                have hlt := hback i hi e.on hj
                exact ih e.on hlt (by omega)
            rw [hr] at hmem
            cases hmem
      exact hkl (all k hk0)
  · have : (Array.replicate ops.size false).toList.count false = ops.size := by simp
    omega
  · refine ⟨by simp, fun i hi => ?_, ?_⟩
    · exfalso
      rcases Nat.lt_or_ge i ops.size with h | h <;> simp [h] at hi
    · rw [if_neg (by rcases Nat.lt_or_ge k ops.size with h | h <;> simp [h])]
      refine ⟨hJ, fun j hj => ?_⟩
      exfalso
      rcases Nat.lt_or_ge j ops.size with h | h <;> simp [h] at hj

/-- The slots that the operations write. -/
def dstOf (ops : Array Oper) (i : Nat) : Option Tmp := (ops[i]?).bind (·.dst)
/-- The frame behind all operations but 'k': operation i has left 'vs i'. -/
def layAll (ops : Array Oper) (k : Nat) (a0 : Act) (vs : Nat → Value) : Act :=
  ((List.range ops.size).filter (· != k)).foldl (fun a i => a.put (dstOf ops i) (vs i)) a0
/-- Outside of what the operations write, 'a' is as 'a0' was. -/
structure Agree (ops : Array Oper) (k : Nat) (a0 a : Act) : Prop where
  defers : a.defers = a0.defers
  size : a.tmps.size = a0.tmps.size
  slot : ∀ t, (∀ i, i ≠ k → dstOf ops i ≠ some t) → a.tmps[t]? = a0.tmps[t]?
/-- No two operations write one slot, each writes within the frame, none has a guard. -/
def plainB (ops : Array Oper) (n k : Nat) : Bool :=
  (List.range ops.size).all fun i => ((ops[i]?).map (fun o => o.guard.isNone)).getD false && (match dstOf ops i with
    | none => i == k
    | some t => decide (t < n) && (List.range ops.size).all fun j => j == i || !(dstOf ops j == some t))

theorem Agree.eval {k : Nat} {a0 a : Act} (h : Agree ops k a0 a) (t : Nat) (ht : (List.range ops.size).all (fun i => !(dstOf ops i == some t)) = true) : a.eval (.tmp t) = a0.eval (.tmp t) := by
  have := h.slot t (fun i _ hi => by
    have hlt : i < ops.size := by
      rcases Nat.lt_or_ge i ops.size with h | h
      · exact h
      · simp [dstOf, Array.getElem?_eq_none h] at hi
    have := List.all_eq_true.1 ht i (List.mem_range.2 hlt)
    simp [hi] at this)
  simp only [Act.eval, Array.getD_eq_getD_getElem?, this]

theorem put_slot (a : Act) (d t : Nat) (v : Value) : (a.put (some d) v).tmps[t]? = if d = t then (if d < a.tmps.size then some v else none) else a.tmps[t]? := by
  simp only [Act.put]
  by_cases h : d = t
  · subst h
    by_cases h2 : d < a.tmps.size
    · simp [h2]
    · simp [h2]
  · rw [if_neg h, Array.getElem?_setIfInBounds_ne h]

theorem layAll_slot (a0 : Act) (vs : Nat → Value) (l : List Nat) (hl : l.Nodup) (hinj : ∀ i ∈ l, ∀ j ∈ l, dstOf ops i = dstOf ops j → dstOf ops i ≠ none → i = j) :
    (l.foldl (fun a i => a.put (dstOf ops i) (vs i)) a0).defers = a0.defers ∧ (l.foldl (fun a i => a.put (dstOf ops i) (vs i)) a0).tmps.size = a0.tmps.size ∧
      (∀ i ∈ l, ∀ t, dstOf ops i = some t → t < a0.tmps.size → (l.foldl (fun a i => a.put (dstOf ops i) (vs i)) a0).tmps[t]? = some (vs i)) ∧
      (∀ t, (∀ i ∈ l, dstOf ops i ≠ some t) → (l.foldl (fun a i => a.put (dstOf ops i) (vs i)) a0).tmps[t]? = a0.tmps[t]?) := by
  induction l generalizing a0 with
  | nil => simp
  | cons x l ih =>
    obtain ⟨hx, hl'⟩ := List.nodup_cons.1 hl
    obtain ⟨h1, h2, h3, h4⟩ := ih (a0.put (dstOf ops x) (vs x)) hl' (fun i hi j hj => hinj i (List.mem_cons_of_mem _ hi) j (List.mem_cons_of_mem _ hj))
    have hs : (a0.put (dstOf ops x) (vs x)).tmps.size = a0.tmps.size := by cases dstOf ops x <;> simp [Act.put]
    have hd : (a0.put (dstOf ops x) (vs x)).defers = a0.defers := by cases dstOf ops x <;> simp [Act.put]
    simp only [List.foldl_cons]
    refine ⟨h1.trans hd, h2.trans hs, fun i hi t ht hlt => ?_, fun t ht => ?_⟩
    · rcases List.mem_cons.1 hi with rfl | hi
      · rw [h4 t (fun j hj e => by
          have : i = j := hinj i (List.mem_cons_self) j (List.mem_cons_of_mem _ hj) (ht.trans e.symm) (by rw [ht]; simp)
          subst this; exact hx hj), ht, put_slot, if_pos rfl, if_pos hlt]
      · exact h3 i hi t ht (by rw [hs]; exact hlt)
    · rw [h4 t (fun i hi => ht i (List.mem_cons_of_mem _ hi))]
      cases hdx : dstOf ops x with
      | none => rfl
      | some d =>
        have : d ≠ t := fun e => ht x (List.mem_cons_self) (by rw [hdx, e])
        rw [put_slot, if_neg this]

/-- THE SAME, TOLD BY VALUES: operation i leaves a value of which 'G i' holds, and a world that stands to the one that it met as 'R' says; R turns no 'G'. -/
theorem wp_region_vals {id : Nat} {a0 : Act} {w0 : World} (hm : P.follows .mixedOrders = true) (k : Nat) (hk : lastB ops k = true) (hp : plainB ops a0.tmps.size k = true)
    (J : World → Prop) (R : World → World → Prop) (G : Nat → Value → World → Prop) (hG : ∀ i v w w', R w w' → G i v w → G i v w') (hJ : J w0.drew)
    (hops : ∀ i o, i < ops.size → i ≠ k → ops[i]? = some o → ∀ a w, J w → Agree ops k a0 a → (∀ j ∈ depsOf ops i, ∀ t, dstOf ops j = some t → G j (a.eval (.tmp t)) w) →
      o.wp P a w (fun a' w' => ∃ v, a' = a.put o.dst v ∧ R w w' ∧ J w' ∧ G i v w') Q)
    (htail : ∀ vs w o, J w → ops[k]? = some o → (∀ j, j < ops.size → j ≠ k → G j (vs j) w) → o.wp P (layAll ops k a0 vs) w (Q .normal) Q) : (Code.region id ops true).wp P Q a0 w0 := by
  simp only [plainB, List.all_eq_true, List.mem_range, Bool.and_eq_true] at hp
  have hguard : ∀ (i : Nat) (o : Oper), ops[i]? = some o → ∀ f, Region.wanted o f = true := by
    intro i o ho f
    have hlt : i < ops.size := (Array.getElem?_eq_some_iff.1 ho).1
    have := (hp i hlt).1
    simp only [ho, Option.map_some, Option.getD_some, Option.isNone_iff_eq_none] at this
    simp [Region.wanted, this]
  have hdst : ∀ i, i < ops.size → i ≠ k → ∃ t, dstOf ops i = some t ∧ t < a0.tmps.size ∧ ∀ j, dstOf ops j = some t → j = i := by
    intro i hi hik
    have h2 := (hp i hi).2
    cases hd : dstOf ops i with
    | none => rw [hd] at h2; simp at h2; exact absurd h2 hik
    | some t =>
      rw [hd] at h2
      simp only [Bool.and_eq_true, decide_eq_true_eq, List.all_eq_true, List.mem_range, Bool.or_eq_true, beq_iff_eq, Bool.not_eq_true'] at h2
      refine ⟨t, rfl, h2.1, fun j hj => ?_⟩
      have hjl : j < ops.size := by
        rcases Nat.lt_or_ge j ops.size with h | h
        · exact h
        · simp [dstOf, Array.getElem?_eq_none h] at hj
      rcases h2.2 j hjl with h | h
      · exact h
      · rw [hj] at h; simp at h
  have hkd : ∀ t, dstOf ops k = some t → ∀ i, i < ops.size → i ≠ k → dstOf ops i ≠ some t := by
    intro t ht i hi hik e
    obtain ⟨t', ht', _, hu⟩ := hdst i hi hik
    rw [e] at ht'
    cases ht'
    exact hik (hu k ht).symm
  refine wp_region_facts hm k hk (fun a w => Agree ops k a0 a ∧ J w) (fun i a w => ∀ t, dstOf ops i = some t → G i (a.eval (.tmp t)) w) ⟨⟨rfl, rfl, fun _ _ => rfl⟩, hJ⟩ ?_ ?_
  · rintro i hi hik a w ⟨hA, hJw⟩ hd
    have ho : ops[i]? = some ops[i] := Array.getElem?_eq_getElem hi
    unfold wpOp
    simp only [ho]
    rw [if_pos (hguard i _ ho _)]
    refine .inl (Oper.wp_mono ?_ (hops i _ hi hik ho a w hJw hA hd))
    rintro a' w' ⟨v, rfl, hRw, hJ', hGv⟩
    obtain ⟨t, ht, htl, hu⟩ := hdst i hi hik
    have hdo : ops[i].dst = some t := by simpa [dstOf, ho] using ht
    rw [hdo]
    refine ⟨⟨⟨hA.defers, by simp [Act.put, hA.size], fun s hs => ?_⟩, hJ'⟩, fun s hs => ?_, fun j hj hGj s hs => ?_⟩
    · have : t ≠ s := fun e => hs i hik (by rw [ht, e])
      rw [put_slot, if_neg this, hA.slot s hs]
    · rw [ht] at hs
      cases hs
      have : (a.put (some t) v).eval (.tmp t) = v := by
        have := put_slot a t t v
        rw [if_pos rfl, if_pos (by rw [hA.size]; exact htl)] at this
        simp only [Act.eval, Array.getD_eq_getD_getElem?, this, Option.getD_some]
      rw [this]; exact hGv
    · have hne : t ≠ s := fun e => hj (hu j (by rw [hs, e]))
      have : (a.put (some t) v).eval (.tmp s) = a.eval (.tmp s) := by
        have := put_slot a t s v
        rw [if_neg hne] at this
        simp only [Act.eval, Array.getD_eq_getD_getElem?, this]
      rw [this]
      exact hG _ _ _ _ hRw (hGj s hs)
  · rintro a w ⟨hA, hJw⟩ hF
    have hk0 : k < ops.size := by
      simp only [lastB, Bool.and_eq_true, decide_eq_true_eq] at hk
      exact hk.1.1
    have ho : ops[k]? = some ops[k] := Array.getElem?_eq_getElem hk0
    unfold wpOp
    simp only [ho]
    rw [if_pos (hguard k _ ho _)]
    let vs : Nat → Value := fun i => match dstOf ops i with | some t => a.eval (.tmp t) | none => undef
    have hmem : ∀ i, i ∈ (List.range ops.size).filter (· != k) ↔ i < ops.size ∧ i ≠ k := by intro i; simp
    obtain ⟨l1, l2, l3, l4⟩ := layAll_slot (ops := ops) a0 vs ((List.range ops.size).filter (· != k)) (List.Pairwise.filter _ List.nodup_range) (by
      intro i hi j hj he hn
      obtain ⟨t, ht, _, hu⟩ := hdst i ((hmem i).1 hi).1 ((hmem i).1 hi).2
      exact (hu j (he.symm.trans ht)).symm)
    have e : a = layAll ops k a0 vs := by
      have ht : a.tmps = (layAll ops k a0 vs).tmps := by
        apply Array.ext_getElem?
        intro t
        by_cases hex : ∃ i, i < ops.size ∧ i ≠ k ∧ dstOf ops i = some t
        · obtain ⟨i, hi, hik, hd⟩ := hex
          obtain ⟨t', ht', hlt, _⟩ := hdst i hi hik
          rw [hd] at ht'
          cases ht'
          have h5 := l3 i ((hmem i).2 ⟨hi, hik⟩) t hd hlt
          unfold layAll
          rw [h5]
          have hlt' : t < a.tmps.size := by rw [hA.size]; exact hlt
          simp only [vs, hd, Act.eval, Array.getD_eq_getD_getElem?, Array.getElem?_eq_getElem hlt', Option.getD_some]
        · have hno : ∀ i, i ≠ k → dstOf ops i ≠ some t := fun i hik hd => hex ⟨i, by
            rcases Nat.lt_or_ge i ops.size with h | h
            · exact h
            · simp [dstOf, Array.getElem?_eq_none h] at hd, hik, hd⟩
          rw [hA.slot t hno]
          exact (l4 t (fun i hi => hno i ((hmem i).1 hi).2)).symm
      have hdd : a.defers = (layAll ops k a0 vs).defers := hA.defers.trans l1.symm
      cases a
      simp only at ht hdd
      rw [ht, hdd]
    rw [e]
    refine .inl (htail vs w _ hJw ho fun j hj hjk => ?_)
    obtain ⟨t, ht, _, _⟩ := hdst j hj hjk
    have := hF j hj hjk t ht
    simpa only [vs, ht] using this

/-! ### The same, with the tables of the region handed in as literals: small terms in the walk -/
/-- A goal that is not looked into, till it is opened. -/
structure Wait (p : Prop) : Prop where
  out : p
/-- What is asked of each operation of a list, but number 'k'. -/
def EachOp (k : Nat) (Φ : Nat → Oper → Prop) : Nat → List Oper → Prop
  | _, [] => True
  | i, o :: l => (i ≠ k → Φ i o) ∧ EachOp k Φ (i + 1) l
def AtOp (Ψ : Oper → Prop) : Nat → List Oper → Prop
  | _, [] => True
  | 0, o :: _ => Ψ o
  | n + 1, _ :: l => AtOp Ψ n l
theorem EachOp.get {k : Nat} {Φ : Nat → Oper → Prop} (l : List Oper) : ∀ (i j : Nat) (o : Oper), EachOp k Φ i l → l[j]? = some o → i + j ≠ k → Φ (i + j) o := by
  induction l with
  | nil => intro i j o _ ho; simp at ho
  | cons x l ih =>
    intro i j o h ho hk
    obtain ⟨h1, h2⟩ := h
    cases j with
    | zero => rw [List.getElem?_cons_zero, Option.some.injEq] at ho; subst ho; exact h1 hk
    | succ j =>
      have h3 := ih (i + 1) j o h2 (by rwa [List.getElem?_cons_succ] at ho) (by omega)
      rwa [show i + 1 + j = i + (j + 1) by omega] at h3
theorem AtOp.get {Ψ : Oper → Prop} (l : List Oper) : ∀ (n : Nat) (o : Oper), AtOp Ψ n l → l[n]? = some o → Ψ o := by
  induction l with
  | nil => intro n o _ ho; simp at ho
  | cons x l ih =>
    intro n o h ho
    cases n with
    | zero => rw [List.getElem?_cons_zero, Option.some.injEq] at ho; subst ho; exact h
    | succ n => exact ih n o h (by rwa [List.getElem?_cons_succ] at ho)
/-- 'E': the slot that each operation but 'k' writes, in the operations' order. 'D': for each operation some of those on which it waits, with their slots. 'K': slots that no operation writes. -/
def tabB (ops : Array Oper) (k : Nat) (E : List (Nat × Tmp)) (D : List (List (Nat × Tmp))) (K : List Tmp) : Bool :=
  (((List.range ops.size).filter (· != k)).map fun i => (i, dstOf ops i)) == E.map (fun p => (p.1, some p.2)) &&
  ((List.range ops.size).all fun i => (D.getD i []).all fun p => (depsOf ops i).contains p.1 && dstOf ops p.1 == some p.2) &&
  K.all fun t => (List.range ops.size).all fun i => !(dstOf ops i == some t)
theorem wp_region_tab {id : Nat} {a0 : Act} {w0 : World} {l : List Oper} (k : Nat) (E : List (Nat × Tmp)) (D : List (List (Nat × Tmp))) (K : List (Tmp × Value))
    (J : World → Prop) (R : World → World → Prop) (G : Nat → Value → World → Prop)
    (hm : P.follows .mixedOrders = true) (hk : lastB l.toArray k = true) (hp : plainB l.toArray a0.tmps.size k = true) (ht : tabB l.toArray k E D (K.map (·.1)) = true)
    (hK : ∀ p ∈ K, a0.tmps[p.1]?.getD undef = p.2) (hG : ∀ i v w w', R w w' → G i v w → G i v w') (hJ : J w0.drew)
    (hops : EachOp k (fun i o => ∀ a w, J w → (∀ p ∈ K, a.tmps[p.1]?.getD undef = p.2) → (∀ p ∈ D.getD i [], G p.1 (a.tmps[p.2]?.getD undef) w) →
      o.wp P a w (fun a' w' => ∃ v, a' = a.put o.dst v ∧ R w w' ∧ J w' ∧ G i v w') Q) 0 l)
    (htail : ∀ (vs : Nat → Value) w, J w → (∀ p ∈ E, G p.1 (vs p.1) w) → Wait (AtOp (fun o => o.wp P (E.foldl (fun a p => a.put (some p.2) (vs p.1)) a0) w (Q .normal) Q) k l)) :
    (Code.region id l.toArray true).wp P Q a0 w0 := by
  simp only [tabB, Bool.and_eq_true, beq_iff_eq, List.all_eq_true, List.mem_range, List.contains_iff_mem] at ht
  obtain ⟨⟨hE, hD⟩, hKt⟩ := ht
  refine wp_region_vals hm k hk hp J R G hG hJ (fun i o hi hik ho a w hJw hA hd => ?_) (fun vs w o hJw ho hGv => ?_)
  · have h := EachOp.get l 0 i o hops (by simpa using ho) (by omega)
    rw [Nat.zero_add] at h
    refine h a w hJw (fun p hp' => ?_) (fun p hp' => ?_)
    · have := hA.eval p.1 (List.all_eq_true.2 fun i hi => hKt p.1 (List.mem_map.2 ⟨p, hp', rfl⟩) i (List.mem_range.1 hi))
      simp only [Act.eval, Array.getD_eq_getD_getElem?] at this
      rw [this]
      exact hK p hp'
    · obtain ⟨h1, h2⟩ := hD i hi p hp'
      have := hd p.1 h1 p.2 h2
      simpa only [Act.eval, Array.getD_eq_getD_getElem?] using this
  · have hGE : ∀ p ∈ E, G p.1 (vs p.1) w := by
      intro p hp'
      have : (p.1, some p.2) ∈ E.map (fun p => (p.1, some p.2)) := List.mem_map.2 ⟨p, hp', rfl⟩
      rw [← hE] at this
      obtain ⟨i, hi, he⟩ := List.mem_map.1 this
      simp only [List.mem_filter, List.mem_range, bne_iff_ne, ne_eq, Prod.mk.injEq] at hi he
      rw [← he.1]
      exact hGv i hi.1 hi.2
    have h := AtOp.get l k o (htail vs w hJw hGE).out (by simpa using ho)
    have e : layAll l.toArray k a0 vs = E.foldl (fun a p => a.put (some p.2) (vs p.1)) a0 := by
      have hgen : ∀ (a : Act), ((List.range l.toArray.size).filter (· != k)).foldl (fun a i => a.put (dstOf l.toArray i) (vs i)) a =
          (((List.range l.toArray.size).filter (· != k)).map fun i => (i, dstOf l.toArray i)).foldl (fun a p => a.put p.2 (vs p.1)) a := by
        intro a; rw [List.foldl_map]
      unfold layAll
      rw [hgen, hE, List.foldl_map]
    rw [e]
    exact h
end

/-! ### Blocks -/
/-- Block g is just these cells, of type t, none of them frozen. -/
def Blk (w : World) (g : Nat) (t : TypeId) (cs : Array Value) : Prop := w.heap[g]? = some (.cells cs t (0, 0))
section
variable {w w' : World} {g : Nat} {t : TypeId} {cs : Array Value}
theorem Blk.lt (h : Blk w g t cs) : g < w.heap.size := (Array.getElem?_eq_some_iff.1 h).1
theorem Blk.cell (h : Blk w g t cs) (i : Nat) : w.cell? ⟨g, i, none⟩ = cs[i]? := by unfold Blk at h; simp [World.cell?, h]
theorem Blk.cell' (h : Blk w g t cs) (i : Nat) {v : Value} (hv : cs[i]? = some v) : w.cell? ⟨g, i, none⟩ = some v := (h.cell i).trans hv
theorem Blk.frozen (h : Blk w g t cs) (i : Nat) : w.frozen? ⟨g, i, none⟩ = false := by unfold Blk at h; simp [World.frozen?, h]
theorem Blk.new (w : World) (t : TypeId) (cs : Array Value) : Blk (w.alloc (.cells cs t)) w.heap.size t cs := heap_alloc_new w _
theorem Blk.newSet (w : World) (p : Addr) (u : Value) (t : TypeId) (cs : Array Value) : Blk ((w.setCell p u).alloc (.cells cs t)) w.heap.size t cs := by
  have := Blk.new (w.setCell p u) t cs
  simpa [World.setCell] using this
theorem Blk.drew (h : Blk w g t cs) : Blk w.drew g t cs := h
theorem Blk.drewN (h : Blk w g t cs) (n : Nat) : Blk (w.drewN n) g t cs := h
theorem Blk.alloc (h : Blk w g t cs) (o : Obj) : Blk (w.alloc o) g t cs := (Below.heap_alloc w o g h.lt).trans h
theorem Blk.put (h : Blk w g t cs) (i : Nat) (u : Value) : Blk (w.setCell ⟨g, i, none⟩ u) g t (cs.setIfInBounds i u) := by
  unfold Blk at h ⊢
  simp [World.setCell, Array.getElem?_modify, h]
theorem Blk.far (h : Blk w g t cs) {p : Addr} (hp : g ≠ p.block) (u : Value) : Blk (w.setCell p u) g t cs := (Below.heap_setCell w p u g hp).trans h
theorem Blk.grown (h : Blk w g t cs) {row : Option Nat} (hg : w.grownBy w' row) (hr : some g ≠ row) : Blk w' g t cs := (hg.block g h.lt hr).trans h
theorem Blk.below {B : Nat} (h : Blk w g t cs) (hb : Below B w w') (hg : g < B) : Blk w' g t cs := (hb.block g hg).trans h
end

section
variable {a w w' : World} {row : Option Nat} {g : Nat}
theorem grown_refl (w : World) (row : Option Nat) : w.grownBy w row := ⟨rfl, rfl, rfl, Nat.le_refl _, fun _ _ _ => rfl⟩
theorem grown_trans {b c : World} (h : a.grownBy b row) (k : b.grownBy c row) : a.grownBy c row :=
  ⟨k.os.trans h.os, k.tape.trans h.tape, k.output.trans h.output, Nat.le_trans h.size k.size, fun i hi hne => (k.block i (Nat.lt_of_lt_of_le hi h.size) hne).trans (h.block i hi hne)⟩
theorem grown_drewN (h : a.grownBy w row) (n : Nat) : a.grownBy (w.drewN n) row := ⟨h.os, h.tape, h.output, h.size, h.block⟩
theorem grown_drew (h : a.grownBy w row) : a.grownBy w.drew row := ⟨h.os, h.tape, h.output, h.size, h.block⟩
theorem grown_alloc (h : a.grownBy w row) (o : Obj) : a.grownBy (w.alloc o) row := grown_trans h (World.grownBy_alloc w o row)
theorem grown_setCell (h : a.grownBy w row) {p : Addr} (hp : some p.block = row ∨ a.heap.size ≤ p.block) (u : Value) : a.grownBy (w.setCell p u) row :=
  ⟨h.os, h.tape, h.output, by simpa [World.setCell] using h.size, fun i hi hne => (Below.heap_setCell w p u i (by
    rintro rfl
    rcases hp with hp | hp
    · exact hne hp
    · omega)).trans (h.block i hi hne)⟩
theorem grown_any {none' : Option Nat} (h : a.grownBy w none) : a.grownBy w none' := ⟨h.os, h.tape, h.output, h.size, fun i hi _ => h.block i hi (by simp)⟩
/-- What has only grown, and may have written block g, which is new in respect of B. -/
theorem below_of_grown {B : Nat} (h : a.grownBy w row) (hB : B ≤ a.heap.size) (hr : ∀ k, row = some k → B ≤ k) : Below B a w :=
  ⟨h.os, h.tape, h.output, h.size, fun k hk => h.block k (by omega) (fun e => by have := hr k e.symm; omega)⟩
end

section
variable {w w' : World} {g : Nat} {t : TypeId} {cs : Array Value}
theorem Blk.setRow (h : Blk w g t cs) (cs' : Array Value) : Blk (w.setRow g cs') g t cs' := setRow_heap w g cs cs' t _ h
theorem Blk.rowFar (h : Blk w g t cs) {g' : Nat} (hne : g ≠ g') (cs' : Array Value) : Blk (w.setRow g' cs') g t cs := (setRow_other w g' g cs' hne).trans h
theorem grown_setRow {a : World} {row : Option Nat} (h : a.grownBy w row) (hp : some g = row ∨ a.heap.size ≤ g) (cs' : Array Value) : a.grownBy (w.setRow g cs') row :=
  ⟨h.os, h.tape, h.output, by simpa using h.size, fun i hi hne => (setRow_other w g i cs' (by
    rintro rfl
    rcases hp with hp | hp
    · exact hne hp
    · omega)).trans (h.block i hi hne)⟩
theorem below_drewN {B : Nat} {a w : World} (h : Below B a w) (n : Nat) : Below B a (w.drewN n) := ⟨h.os, h.tape, h.output, h.size, h.block⟩
theorem below_row {B : Nat} {a : World} (h : Below B a w) (hB : B ≤ g) (cs' : Array Value) : Below B a (w.setRow g cs') :=
  h.trans ⟨rfl, rfl, rfl, by simp, fun k hk => setRow_other w g k cs' (by omega)⟩
/-- An element of a row of numbers. -/
theorem ints_at {l : List Int} {lo hi : Int} (h : Blk w g t (l.map (Value.int .i64)).toArray) (hl : ∀ x ∈ l, lo ≤ x ∧ x ≤ hi) {r : Int} (h0 : 0 ≤ r) (h1 : r < l.length) :
    ∃ x, w.cell? ⟨g, r.toNat, none⟩ = some (.int .i64 x) ∧ lo ≤ x ∧ x ≤ hi := by
  have hr : r.toNat < l.length := by omega
  refine ⟨l[r.toNat], ?_, hl _ (List.getElem_mem hr)⟩
  rw [h.cell]
  simp [hr]
end
section
variable {w w' : World} {base base' e size n : Nat} {v : Value} {xs : List Value}
/-- A row of the call's own and a block of another type are two. -/
theorem own_ne {g : Nat} {t : TypeId} {cs : Array Value} (h : w.ownsRow base e size v n xs) (hg : Blk w g t cs) (hne : e ≠ t) : some g ≠ v.ownBlock := by
  rcases h.2 with ⟨rfl, _⟩ | ⟨g', cap, cur, rfl, _, hh, _⟩
  · simp [Value.ownBlock]
  · intro he
    have : g = g' := by simpa [Value.ownBlock] using he
    subst this
    unfold Blk at hg
    rw [hh] at hg
    injection hg with hg
    injection hg with _ ht
    exact hne ht
theorem own_base (h : w.ownsRow base e size v n xs) (hb : base' ≤ base) : w.ownsRow base' e size v n xs :=
  ⟨h.1, h.2.imp id fun ⟨g, cap, cur, hv, hg, r⟩ => ⟨g, cap, cur, hv, Nat.le_trans hb hg, r⟩⟩
theorem own_form (h : w.ownsRow base e size v n xs) : ∃ a c, v = .slice a n c := by
  rcases h.2 with ⟨rfl, rfl⟩ | ⟨g', cap, cur, rfl, _⟩
  · exact ⟨_, _, rfl⟩
  · exact ⟨_, _, rfl⟩
theorem own_setCell {p : Addr} {u : Value} {t : TypeId} {cs : Array Value} (h : w.ownsRow base e size v n xs) (hp : Blk w p.block t cs) (hne : e ≠ t) : (w.setCell p u).ownsRow base e size v n xs := by
  refine h.kept (row := some p.block) (grown_setCell (grown_refl _ _) (.inl rfl) u) (.inr ?_)
  exact fun e' => own_ne h hp hne e'.symm
theorem own_grown {row : Option Nat} (h : w.ownsRow base e size v n xs) (hg : w.grownBy w' row) (hr : ∀ k, row = some k → k < base) : w'.ownsRow base e size v n xs := by
  refine h.kept hg ?_
  cases hv : v.ownBlock with
  | none => exact .inl rfl
  | some k =>
    refine .inr fun e' => ?_
    have := (h.lt k hv).1
    have := hr k e'.symm
    omega
end
/-- A slice of integers that came in: nil, or a row of cells. -/
def IsRow (k : IntKind) (w : World) (a : Option Addr) (len cap : Nat) (zs : List Int) : Prop :=
  (a = none ∧ len = 0 ∧ cap = 0 ∧ zs = []) ∨
  ∃ x, a = some x ∧ len ≤ cap ∧ cap ≤ maxLen ∧ zs.length = cap ∧ (∀ i, i < zs.length → w.cell? (x.add i) = some (.int k (zs.getD i 0))) ∧ ∀ n ∈ zs, (Lit.int k n).wf = true
theorem IsRow.num {k : IntKind} {w : World} {a : Option Addr} {len cap : Nat} {zs : List Int} (h : IsRow k w a len cap zs) : ∀ i, i < len → ∃ b o, a = some ⟨b, o, none⟩ ∧ b < w.heap.size ∧ w.cell? ⟨b, o + i, none⟩ = some (.int k (zs.getD i 0)) := by
  intro i hi
  rcases h with ⟨_, rfl, _⟩ | ⟨x, rfl, hl, _, hz, hc, _⟩
  · omega
  · have h0 := hc 0 (by omega)
    have hi' := hc i (by omega)
    obtain ⟨b, o, spot⟩ := x
    have hspot : spot = none := by simpa [Addr.add] using World.cell?_spot h0
    subst hspot
    rw [Addr.add_mid] at hi'
    exact ⟨b, o, rfl, block_lt_of_cell hi', hi'⟩
theorem IsRow.most {k : IntKind} {w : World} {a : Option Addr} {len cap : Nat} {zs : List Int} (h : IsRow k w a len cap zs) : len ≤ cap ∧ cap ≤ 9223372036854775807 := by
  rcases h with ⟨_, rfl, rfl, _⟩ | ⟨x, rfl, hl, hm, _⟩
  · omega
  · unfold maxLen at hm; omega
theorem cell_one_at (w : World) (x : Value) (t : TypeId) (N : Nat) (h : N = w.heap.size) : ∀ j u, [x][j]? = some u → (w.alloc (.cells #[x] t)).cell? ((⟨N, 0, none⟩ : Addr).add j) = some u := by
  subst h; exact cell_one_new w x t
theorem IsRow.below {k : IntKind} {w w' : World} {a : Option Addr} {len cap : Nat} {zs : List Int} (h : IsRow k w a len cap zs) (hb : Below w.heap.size w w') : IsRow k w' a len cap zs := by
  rcases h with h | ⟨x, e, hl, hm, hz, hc, hw⟩
  · exact .inl h
  · refine .inr ⟨x, e, hl, hm, hz, fun i hi => ?_, hw⟩
    have := hc i hi
    rw [hb.cell (block_lt_of_cell this)]
    exact this
theorem ret_int {k : IntKind} {a b : Int} (h : a = b) : Ending.returned (.int k a) = .returned (.int k b) := by rw [h]
theorem ret_bool {a b : Bool} (h : a = b) : Ending.returned (.bool a) = .returned (.bool b) := by rw [h]
/-- What goes on, told of a world of which only 'S' is known. -/
theorem on_told {K : Act → World → Prop} {a : Act} {w : World} (S : World → Prop) (hS : S w) (h : ∀ w', S w' → K a w') : K a w := h w hS
/-- A call, met in a world of which only 'S' is told from here on. -/
theorem calls_told {P : Program} {f : FuncId} {args : Array Value} {w : World} {T : Ending → World → Prop} (S : World → Prop) (hS : S w) (h : ∀ w', S w' → Calls P f args w' T) : Calls P f args w T := h w hS
end Go.Proofs.YtefdjdipbnnoaaaGreatDoor

/-
  Lists of items in memory: appended, copied, one item stored. No condition.
-/
import Derived.Test.YtefdjdipbnnoaaaDoorStageE17
namespace Go.Proofs.YtefdjdipbnnoaaaDoor
open Go Go.RowKit
set_option linter.unusedVariables false
set_option linter.unusedSimpArgs false

theorem itsC_one (l : List It) : ∀ u ∈ itsC l, u.oneCell' = true := by
  induction l with
  | nil => intro u hu; cases hu
  | cons x l ih =>
    intro u hu
    rcases List.mem_append.1 (show u ∈ (itA x).toList ++ itsC l from hu) with h | h
    · exact it_one x u h
    · exact ih u h
/-- What lies at a list's address, cell by cell. -/
theorem ItsAt.cells {W : World} {ad : Addr} {l : List It} (h : ItsAt W (some ad) l) : ∀ (j : Nat) (u : Value), (itsC l)[j]? = some u → W.cell? (ad.add j) = some u := by
  intro j u hu
  have hj : j < l.length * 22 := by rw [← itsC_length]; exact (List.getElem?_eq_some_iff.1 hu).1
  have hi : j / 22 < l.length := by omega
  obtain ⟨b, o, eb, _, hc⟩ := h (j / 22) _ (List.getElem?_eq_getElem hi)
  injection eb with eb
  subst eb
  have e := itsC_at l (j / 22) (j % 22) _ (List.getElem?_eq_getElem hi) (by omega)
  rw [show j / 22 * 22 + j % 22 = j by omega, hu] at e
  have := hc (j % 22) u e.symm
  rw [show o + j / 22 * 22 + j % 22 = o + j by omega] at this
  rw [Addr.add_mid]
  exact this
/-- append of a list to an owned one. -/
theorem go_itsapp {ops : Array Oper} {rest : List Oper} {a : Act} {w : World} {Q : Exit → Act → World → Prop} {dst : Option Tmp} {ty0 : TypeId} {pos : String} {after : Array Edge} (x y : Operand) {base : Nat} {v : Value} (ts : List It) (ao : Option Addr) (c : Nat) (us : List It)
    (hx : a.eval x = v) (hown : w.ownsRow base 25 22 v ts.length (itsC ts)) (hy : a.eval y = .slice ao us.length c) (h0 : ao = none → us.length = 0 ∧ c = 0) (hat : ItsAt w ao us) (hn : ts.length + us.length ≤ 1000000) (hb : base ≤ w.heap.size)
    (h : ∀ v' w', w'.ownsRow base 25 22 v' (ts ++ us).length (itsC (ts ++ us)) → w.grownBy w' v.ownBlock → wpList Tryd.prog ops Q rest (a.put dst v') w') : wpList Tryd.prog ops Q (⟨dst, .call { callee := .builtin .append, args := #[x, y], argTypes := #[37, 37] }, ty0, pos, after, none⟩ :: rest) a w := by
  obtain ⟨i0, hi, hz0, hz1, hz2⟩ := info_parts infoIt
  refine wpList_append_tab rfl x y 37 rfl base 25 i0 (.agg (itA zeroI)) 22 176 Tryd.underlying37 hi hz0 hz1 hz2 rfl (by decide) v ts.length (itsC ts) hx hown ao us.length c (itsC us) hy h0 (itsC_length us) ?_ (itsC_one us) (by unfold maxLen; omega) (by omega) hb ?_
  · intro ad had
    subst had
    exact hat.cells
  · intro v' w' hown' hgrow _
    rw [← itsC_append, ← List.length_append] at hown'
    exact h v' w' hown' hgrow
theorem own_empty {w : World} {g base : Nat} (hg : Blk w g 25 #[]) (hb : base ≤ g) : w.ownsRow base 25 22 (.slice (some ⟨g, 0, none⟩) 0 0) ([] : List It).length (itsC []) :=
  ⟨rfl, .inr ⟨g, 0, #[], rfl, hb, hg, Nat.le_refl _, by decide, by simp, by simp [itsC]⟩⟩
/-- append of a list to an empty literal. -/
theorem go_itcopy {ops : Array Oper} {rest : List Oper} {a : Act} {w : World} {Q : Exit → Act → World → Prop} {dst : Option Tmp} {ty0 : TypeId} {pos : String} {after : Array Edge} (x y : Operand) (g : Nat) (ao : Option Addr) (c : Nat) (us : List It)
    (hx : a.eval x = .slice (some ⟨g, 0, none⟩) 0 0) (hg : Blk w g 25 #[]) (hy : a.eval y = .slice ao us.length c) (h0 : ao = none → us.length = 0 ∧ c = 0) (hat : ItsAt w ao us) (hn : us.length ≤ 1000000)
    (h : ∀ v' w', w'.ownsRow g 25 22 v' us.length (itsC us) → w.grownBy w' (some g) → wpList Tryd.prog ops Q rest (a.put dst v') w') : wpList Tryd.prog ops Q (⟨dst, .call { callee := .builtin .append, args := #[x, y], argTypes := #[37, 37] }, ty0, pos, after, none⟩ :: rest) a w := by
  refine go_itsapp x y [] ao c us hx (own_empty hg (Nat.le_refl g)) hy h0 hat (by simp; omega) (Nat.le_of_lt hg.lt) ?_
  intro v' w' ho hgr
  rw [List.nil_append] at ho
  exact h v' w' ho hgr
/-- A list in a block of its own. -/
def ItsOwn (W : World) (base g : Nat) (l : List It) : Prop := base ≤ g ∧ ∃ cur : Array Value, Blk W g 25 cur ∧ ∀ (j : Nat) (u : Value), (itsC l)[j]? = some u → cur[j]? = some u
theorem its_form {W : World} {base : Nat} {v : Value} {l : List It} (h : W.ownsRow base 25 22 v l.length (itsC l)) (hl : 0 < l.length) : ∃ g c, v = .slice (some ⟨g, 0, none⟩) l.length c ∧ ItsOwn W base g l := by
  rcases h.2 with ⟨_, e⟩ | ⟨g, cap, cur, rfl, hb, hg, _, _, _, ht⟩
  · omega
  · refine ⟨g, cap, rfl, hb, cur, hg, fun j u hu => ?_⟩
    have hj := (List.getElem?_eq_some_iff.1 hu).1
    rw [itsC_length] at hj
    rw [← ht, List.getElem?_take] at hu
    rw [if_pos hj] at hu
    rw [← Array.getElem?_toList]
    exact hu
theorem ItsOwn.at' {W : World} {base g : Nat} {l : List It} (h : ItsOwn W base g l) : ItsAt W (some ⟨g, 0, none⟩) l := fun i t hi => by
  obtain ⟨_, cur, hb, hc⟩ := h
  refine ⟨g, 0, rfl, hb.lt, fun j v hv => ?_⟩
  rw [Nat.zero_add, hb.cell]
  have hj : j < 22 := (List.getElem?_eq_some_iff.1 hv).1
  exact hc _ _ ((itsC_at l i j t hi hj).trans hv)
theorem ItsOwn.below {W W' : World} {base g : Nat} {l : List It} (h : ItsOwn W base g l) (hb : Below W.heap.size W W') : ItsOwn W' base g l := by
  obtain ⟨h1, cur, h2, h3⟩ := h
  exact ⟨h1, cur, h2.below hb h2.lt, h3⟩
theorem its_form2 {W : World} {base : Nat} {v : Value} {l : List It} (h : W.ownsRow base 25 22 v l.length (itsC l)) : ∃ a c, v = .slice a l.length c ∧ ItsAt W a l ∧ (a = none → l.length = 0 ∧ c = 0) ∧ (0 < l.length → ∃ g, a = some ⟨g, 0, none⟩ ∧ ItsOwn W base g l) := by
  obtain ⟨a, c, rfl, h1, h2⟩ := its_own h
  refine ⟨a, c, rfl, h1, h2, fun hl => ?_⟩
  obtain ⟨g, c', e, h3⟩ := its_form h hl
  injection e with e
  exact ⟨g, e, h3⟩
theorem its_form3 {W : World} {base : Nat} {a : Option Addr} {c : Nat} {l : List It} (h : W.ownsRow base 25 22 (.slice a l.length c) l.length (itsC l)) : (a = none ∧ l.length = 0 ∧ c = 0) ∨ ∃ g, a = some ⟨g, 0, none⟩ ∧ l.length ≤ c ∧ c ≤ 9223372036854775807 := by
  rcases h.2 with ⟨e, e0⟩ | ⟨g, cap, cur, e, hb, hg, h1, h2, _⟩
  · injection e with e1 e2 e3
    exact .inl ⟨e1, e0, e3⟩
  · injection e with e1 e2 e3
    subst e3
    exact .inr ⟨g, e1, h1, by unfold maxLen at h2; omega⟩
theorem ItsAt.take {W : World} {a : Option Addr} {l : List It} (h : ItsAt W a l) (k : Nat) : ItsAt W a (l.take k) := fun i t hi => by
  rw [List.getElem?_take] at hi
  split at hi
  · exact h i t hi
  · cases hi
theorem ItsAt.drop {W : World} {g o : Nat} {l : List It} (h : ItsAt W (some ⟨g, o, none⟩) l) (k : Nat) : ItsAt W (some ⟨g, o + k * 22, none⟩) (l.drop k) := fun i t hi => by
  rw [List.getElem?_drop] at hi
  obtain ⟨b, o', e, hb, hc⟩ := h (k + i) t hi
  injection e with e
  injection e with e1 e2
  subst e1 e2
  refine ⟨_, _, rfl, hb, fun j v hv => ?_⟩
  have := hc j v hv
  rw [show o + (k + i) * 22 + j = o + k * 22 + i * 22 + j by omega] at this
  exact this
theorem its_hi {a : Option Addr} {len c k : Nat} (ha : a = none ∨ ∃ g, a = some ⟨g, 0, none⟩) (hk : k ≤ c) (W : World) : (Instr.sliceAt 37 (.slice a len c) none (some (.int .i64 (k : Int))) none).run Tryd.prog W = .ok (.slice a k c) W := by
  have h0 : (0 : Int) ≤ (k : Int) := by omega
  have h1 : (k : Int) ≤ (c : Int) := by omega
  rcases ha with rfl | ⟨g, rfl⟩
  · go_simp
  · go_simp
theorem its_lo {a : Option Addr} {c k : Nat} {l : List It} (ha : a = none ∧ l.length = 0 ∧ c = 0 ∨ ∃ g, a = some ⟨g, 0, none⟩ ∧ l.length ≤ c ∧ c ≤ 9223372036854775807) (hk : k ≤ l.length) :
    ∃ ad, (∀ W, (Instr.sliceAt 37 (.slice a l.length c) (some (.int .i64 (k : Int))) none none).run Tryd.prog W = .ok (.slice ad (l.length - k) (c - k)) W) ∧ ∀ W, ItsAt W a l → ItsAt W ad (l.drop k) := by
  have h0 : (0 : Int) ≤ (k : Int) := by omega
  have h1 : (k : Int) ≤ (l.length : Int) := by omega
  rcases ha with ⟨rfl, e0, rfl⟩ | ⟨g, rfl, h2, h3⟩
  · obtain rfl : k = 0 := by omega
    refine ⟨none, fun W => ?_, fun W h => by rw [List.drop_zero]; exact h⟩
    go_simp
  · by_cases hc : c = k
    · refine ⟨some ⟨g, 0, none⟩, fun W => ?_, fun W h => by rw [List.drop_eq_nil_of_le (by omega)]; exact ItsAt.nil _ _⟩
      go_simp
    · refine ⟨some ⟨g, k * 22, none⟩, fun W => ?_, fun W h => by have := h.drop k; rwa [Nat.zero_add] at this⟩
      go_simp
theorem go_slice {ops : Array Oper} {rest : List Oper} {a : Act} {w : World} {Q : Exit → Act → World → Prop} {dst : Option Tmp} {ty0 : TypeId} {pos : String} {after : Array Edge} (t : TypeId) (x : Operand) (lo hi : Option Operand) (v : Value)
    (hr : (Instr.sliceAt t (a.eval x) (lo.map a.eval) (hi.map a.eval) none).run Tryd.prog w = .ok v w) (h : wpList Tryd.prog ops Q rest (a.put dst v) w) : wpList Tryd.prog ops Q (⟨dst, .slice t x lo hi none, ty0, pos, after, none⟩ :: rest) a w := by
  refine wpList_plain rfl fun K hK => ?_
  have := hK _ _ h
  clear h hK
  unfold Oper.wp execOp
  simp only [Option.map_none, Sem.run_bind, hr, Result.andThen_ok, Sem.run_pure]
  exact this
theorem its_nil {W : World} {a : Option Addr} {len cap : Nat} (h : Leaf W (.tab itKinds) (.slice a len cap)) : a = none → len = 0 ∧ cap = 0 := by
  obtain ⟨_, _, _, _, h0⟩ := TabAt.of_leaf (C := 22) h rfl (by omega)
  exact h0
theorem below_cells {B b : Nat} {a : World} (hb : B ≤ b) : ∀ (vs : List Value) (o : Nat) (w : World), Below B a w → Below B a (w.setCells b o vs)
  | [], _, _, h => h
  | v :: r, o, w, h => below_cells hb r (o + 1) _ (h.setCell (p := ⟨b, o, none⟩) hb v)
/-- One item is stored. -/
theorem ItsOwn.set {W : World} {base g : Nat} {l : List It} (h : ItsOwn W base g l) {k : Nat} (hk : k < l.length) (x : It) : ItsAt (W.setCells g (k * 22) (itA x).toList) (some ⟨g, 0, none⟩) (l.set k x) ∧ W.there g (k * 22) 22 := by
  have hat := h.at'
  have hth : W.there g (k * 22) 22 := fun j hj => by
    obtain ⟨_, cur, hb, hc⟩ := h
    refine ⟨?_, hb.frozen _⟩
    rw [hb.cell, hc (k * 22 + j) _ (by rw [itsC_at l k j _ (List.getElem?_eq_getElem hk) hj]; exact List.getElem?_eq_getElem (by rw [itA_len]; exact hj))]
    rfl
  refine ⟨fun i t hi => ⟨g, 0, rfl, by
    obtain ⟨_, cur, hb, _⟩ := h
    have := (below_cells (Nat.le_refl W.heap.size) (itA x).toList (k * 22) W (Below.refl _ _)).size
    have h2 := (below_cells (B := 0) (b := g) (Nat.zero_le _) (itA x).toList (k * 22) W (Below.refl 0 W)).size
    have := hb.lt
    omega, fun j v hv => ?_⟩, hth⟩
  have hj : j < 22 := (List.getElem?_eq_some_iff.1 hv).1
  rw [Nat.zero_add]
  by_cases e : k = i
  · subst e
    rw [List.getElem?_set_self hk] at hi
    have hi := Option.some.inj hi
    subst hi
    exact World.rangeAt_setCells_same W g (k * 22) (itA x).toList (by rw [itA_len]; exact hth) j v hv
  · rw [List.getElem?_set_ne e] at hi
    have hr : W.rangeAt g (i * 22) (itA t).toList := fun j v hv => by
      obtain ⟨b, o, eb, _, hc⟩ := hat i t hi
      injection eb with eb
      injection eb with e1 e2
      subst e1 e2
      have := hc j v hv
      rwa [Nat.zero_add] at this
    exact World.rangeAt_setCells_apart hr g (k * 22) (itA x).toList (.inr (by rw [itA_len, itA_len]; omega)) j v hv
theorem go_storeM {ops : Array Oper} {rest : List Oper} {a : Act} {w : World} {Q : Exit → Act → World → Prop} {dst : Option Tmp} {ty0 : TypeId} {pos : String} {after : Array Edge} (x y : Operand) (g o : Nat) (i : It) (hx : a.eval x = .pointer (some ⟨g, o, none⟩)) (hy : a.eval y = .agg (itA i)) (hth : w.there g o 22)
    (h : wpList Tryd.prog ops Q rest (a.put dst undef) (w.setCells g o (itA i).toList)) : wpList Tryd.prog ops Q (⟨dst, .store 25 x y, ty0, pos, after, none⟩ :: rest) a w :=
  wpList_store_mid rfl 25 x y rfl g o (itA i) hx hy hth (by kernel_rfl) (itA_one i) h
end Go.Proofs.YtefdjdipbnnoaaaDoor

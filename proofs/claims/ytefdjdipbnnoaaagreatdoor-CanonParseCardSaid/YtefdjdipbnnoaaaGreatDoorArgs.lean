/-
  General lemmas that no program is named in: what the cells of an argument are, if its type is made of integers, bools, strings, structs of such, and slices of such. No condition.
-/
import Derived.Test.YtefdjdipbnnoaaaGreatDoorBase
import Derived.Deep.Slices
import Derived.Deep.Fields
import Derived.ChangeShapes
namespace Go.Proofs.YtefdjdipbnnoaaaGreatDoor
open Go Go.RowKit Go.ChangeShapes Go.WideShapes Go.Deep
set_option linter.unusedVariables false

/-- The kinds of the cells that a value is made of. -/
inductive Kind where
  | int (k : IntKind)
  | bool
  | str
  | tab (ks : List Kind)

/-- The kinds of the cells of fields that lie one behind the other. -/
def kindsF (P : Program) (f : TypeId → Option (List Kind)) : List Field → Nat → Option (List Kind)
  | [], _ => some []
  | x :: l, off => if x.offset = off then (f x.type).bind fun ks => if P.cellsOf x.type = ks.length then (kindsF P f l (off + ks.length)).map (ks ++ ·) else none else none
/-- The kinds of the cells of a type. -/
def kindsOf (P : Program) : Nat → TypeId → Option (List Kind)
  | 0, _ => none
  | n + 1, t => match P.underlying t with
    | some (.int k) => some [.int k]
    | some .bool => some [.bool]
    | some .string => some [.str]
    | some (.slice e) => (kindsOf P n e).bind fun ks => if P.cellsOf e = ks.length then some [.tab ks] else none
    | some (.struct fs) => (kindsF P (kindsOf P n) fs.toList 0).bind fun ks => if P.cellsOf t = ks.length then some ks else none
    | _ => none

/-- A cell is of a kind. -/
inductive Leaf (w : World) : Kind → Value → Prop where
  | int (k : IntKind) (z : Int) : (Lit.int k z).wf = true → Leaf w (.int k) (.int k z)
  | bool (b : Bool) : Leaf w .bool (.bool b)
  | str (s : ByteArray) : s.size ≤ maxLen → Leaf w .str (.string s)
  | nil (ks : List Kind) : Leaf w (.tab ks) (.slice none 0 0)
  | tab (ks : List Kind) (x : Addr) (len cap : Nat) (R : Nat → Nat → Value) : len ≤ cap → cap ≤ maxLen →
      (∀ i, i < cap → ∀ j k, ks[j]? = some k → w.cell? (x.add (i * ks.length + j)) = some (R i j)) →
      (∀ i, i < cap → ∀ j k, ks[j]? = some k → Leaf w k (R i j)) → Leaf w (.tab ks) (.slice (some x) len cap)
/-- Cells are of kinds. -/
def Leaves (w : World) : List Kind → List Value → Prop
  | [], [] => True
  | k :: ks, v :: vs => Leaf w k v ∧ Leaves w ks vs
  | _, _ => False

theorem Leaves.append {w : World} : ∀ {ks ks' : List Kind} {vs vs' : List Value}, Leaves w ks vs → Leaves w ks' vs' → Leaves w (ks ++ ks') (vs ++ vs')
  | [], _, [], _, _, h => h
  | _ :: _, _, _ :: _, _, h, h' => ⟨h.1, Leaves.append h.2 h'⟩
  | [], _, _ :: _, _, h, _ => h.elim
  | _ :: _, _, [], _, h, _ => h.elim
theorem Leaves.len {w : World} : ∀ {ks : List Kind} {vs : List Value}, Leaves w ks vs → vs.length = ks.length
  | [], [], _ => rfl
  | _ :: _, _ :: _, h => by simp [Leaves.len h.2]
  | [], _ :: _, h => h.elim
  | _ :: _, [], h => h.elim
theorem Leaves.at {w : World} : ∀ {ks : List Kind} {vs : List Value}, Leaves w ks vs → ∀ (j : Nat) (k : Kind), ks[j]? = some k → ∃ v, vs[j]? = some v ∧ Leaf w k v
  | [], [], _, j, k, h => by simp at h
  | k0 :: ks, v :: vs, h, 0, k, e => by simp at e; subst e; exact ⟨v, rfl, h.1⟩
  | k0 :: ks, v :: vs, h, j + 1, k, e => by simpa using Leaves.at h.2 j k (by simpa using e)
  | [], _ :: _, h, _, _, _ => h.elim
  | _ :: _, [], h, _, _, _ => h.elim

section
variable {H : Type} {enc : TypeId × Value → H} {P : Program} {w : World} {base : Nat}
theorem leaves_fields {f : TypeId → Option (List Kind)} {cs : List Value} {m : Nat} (ih : ∀ t ks cs y, f t = some ks → DataW.trod enc P w base (fun _ => true) true m t cs = some y → Leaves w ks cs) :
    ∀ (l : List Field) (off : Nat) (ks : List Kind), (∀ x ∈ l, ∃ y, DataW.trod enc P w base (fun _ => true) true m x.type ((cs.drop x.offset).take (P.cellsOf x.type)) = some y) → kindsF P f l off = some ks →
      Leaves w ks ((cs.drop off).take ks.length)
  | [], off, ks, _, h => by
    simp [kindsF] at h
    subst h
    simp [Leaves]
  | x :: l, off, ks, hx, h => by
    unfold kindsF at h
    split at h
    case isFalse => cases h
    case isTrue ho =>
      rw [Option.bind_eq_some_iff] at h
      obtain ⟨k1, hk1, h⟩ := h
      split at h
      case isFalse => cases h
      case isTrue hc =>
        rw [Option.map_eq_some_iff] at h
        obtain ⟨k2, hk2, rfl⟩ := h
        obtain ⟨y, hy⟩ := hx x (by simp)
        have h1 := ih _ _ _ _ hk1 hy
        have h2 := leaves_fields ih l (off + k1.length) k2 (fun x hx' => hx x (by simp [hx'])) hk2
        rw [ho, hc] at h1
        have := h1.append h2
        rw [List.length_append, List.take_add, List.drop_drop]
        exact this

theorem leaves_of : ∀ (n : Nat) (t : TypeId) (ks : List Kind) (m : Nat) (cs : List Value) (y : DataW H × List MemPlace), kindsOf P n t = some ks → DataW.trod enc P w base (fun _ => true) true m t cs = some y → Leaves w ks cs
  | 0, _, _, _, _, _, h, _ => by simp [kindsOf] at h
  | n + 1, t, ks, m, cs, y, h, hy => by
    unfold kindsOf at h
    split at h
    case h_1 k hk =>
      obtain ⟨z, rfl, _, hw⟩ := DataW.trod_int hk hy
      cases h
      exact ⟨.int _ _ hw, trivial⟩
    case h_2 hk =>
      obtain ⟨b, rfl, _⟩ := DataW.trod_bool hk hy
      cases h
      exact ⟨.bool _, trivial⟩
    case h_3 hk =>
      obtain ⟨s, rfl, _, hs⟩ := DataW.trod_string hk hy
      cases h
      exact ⟨.str _ hs, trivial⟩
    case h_4 e hk =>
      rw [Option.bind_eq_some_iff] at h
      obtain ⟨k1, hk1, h⟩ := h
      split at h
      case isFalse => cases h
      case isTrue hc =>
        cases h
        rcases open_slice hk hy with ⟨rfl, _⟩ | ⟨x, len, cap, m', n', D, Pl, rfl, _, hl, hm, hm', _, hi⟩
        · exact ⟨.nil _, trivial⟩
        · simp only [if_true] at hm'
          subst hm'
          refine ⟨?_, trivial⟩
          have hcell : ∀ i, i < m' → ∀ j k, k1[j]? = some k → ∃ v, w.cell? (x.add (i * k1.length + j)) = some v ∧ Leaf w k v := by
            intro i hi' j k hj
            obtain ⟨cs', hcs, ht⟩ := hi i hi'
            rw [hc] at hcs
            obtain ⟨_, hcl, hat⟩ := World.cells?_some hcs
            obtain ⟨v, hv, hvl⟩ := (leaves_of n e k1 n' cs' _ hk1 ht).at j k hj
            refine ⟨v, ?_, hvl⟩
            have := hat j (List.getElem?_eq_some_iff.1 hj).1
            rw [← Go.Deep.add_add, this, hv]
          let R : Nat → Nat → Value := fun i j => (w.cell? (x.add (i * k1.length + j))).getD undef
          refine .tab k1 x len m' R hl hm (fun i hi' j k hj => ?_) fun i hi' j k hj => ?_
          · obtain ⟨v, hv, _⟩ := hcell i hi' j k hj
            simp [R, hv]
          · obtain ⟨v, hv, hl⟩ := hcell i hi' j k hj
            simpa [R, hv] using hl
    case h_5 fs hk =>
      rw [Option.bind_eq_some_iff] at h
      obtain ⟨k1, hk1, h⟩ := h
      split at h
      case isFalse => cases h
      case isTrue hc =>
        cases h
        obtain ⟨xs, n', _, _, hcl, hxl, hf⟩ := DataW.trod_struct hk hy
        have := leaves_fields (cs := cs) (m := n') (fun t ks cs y => leaves_of n t ks n' cs y) fs.toList 0 _ (fun x hx => by
          obtain ⟨i, hi⟩ := List.mem_iff_getElem?.1 hx
          have hi' : fs[i]? = some x := by simpa using hi
          have hlt := (Array.getElem?_eq_some_iff.1 hi').1
          exact ⟨xs[i]'(by omega), (hf i x hi').trans (List.getElem?_eq_getElem (by omega))⟩) hk1
        rw [List.drop_zero, ← hc, ← hcl, List.take_length] at this
        exact this
    case h_6 => cases h

/-- A struct by value. -/
theorem open_cells {r : Reach} {b0 : Nat} {t : TypeId} {fs : Array Field} {v : Value} {d : DataW H} {p : List MemPlace} {ks : List Kind} (n : Nat) (hs : P.underlying t = some (.struct fs)) (hk : kindsOf P n t = some ks)
    (hv : Value.okWide P w r b0 t v) (h : DataW.Trod enc P w base (fun _ => true) true t v d p) : ∃ cs : List Value, v = .agg cs.toArray ∧ Leaves w ks cs := by
  obtain ⟨cs, rfl, _⟩ := okWide_struct hs hv
  obtain ⟨fuel, hf⟩ := h
  exact ⟨cs.toList, by simp, leaves_of n t ks fuel cs.toList _ hk (by simpa [Value.cells] using hf)⟩
/-- A slice. -/
theorem open_tab {r : Reach} {b0 : Nat} {t e : TypeId} {v : Value} {d : DataW H} {p : List MemPlace} {ks : List Kind} (n : Nat) (hs : P.underlying t = some (.slice e)) (hk : kindsOf P n t = some [.tab ks])
    (hv : Value.okWide P w r b0 t v) (h : DataW.Trod enc P w base (fun _ => true) true t v d p) : ∃ a len cap, v = .slice a len cap ∧ Leaf w (.tab ks) (.slice a len cap) := by
  obtain ⟨a, len, cap, rfl⟩ := okWide_slice hs hv
  obtain ⟨fuel, hf⟩ := h
  have := leaves_of n t _ fuel _ _ hk (by simpa [Value.cells] using hf)
  exact ⟨a, len, cap, rfl, this.1⟩
end

/-- A row of integers. -/
theorem Leaf.ints {w : World} {k : IntKind} {v : Value} (h : Leaf w (.tab [.int k]) v) : ∃ a len cap zs, v = .slice a len cap ∧ IsRow k w a len cap zs := by
  cases h with
  | nil => exact ⟨_, _, _, [], rfl, .inl ⟨rfl, rfl, rfl, rfl⟩⟩
  | tab _ x len cap R hl hm hc hL =>
    have hr : ∀ i, i < cap → ∃ z, R i 0 = .int k z ∧ (Lit.int k z).wf = true := by
      intro i hi
      have := hL i hi 0 _ rfl
      generalize R i 0 = u at this
      cases this with
      | int _ z hw => exact ⟨z, rfl, hw⟩
    let f : Nat → Int := fun i => match R i 0 with | .int _ z => z | _ => 0
    refine ⟨_, _, _, (List.range cap).map f, rfl, .inr ⟨x, rfl, hl, hm, by simp, fun i hi => ?_, fun n hn => ?_⟩⟩
    · have hi' : i < cap := by simpa using hi
      obtain ⟨z, hz, _⟩ := hr i hi'
      have := hc i hi' 0 _ rfl
      simp only [List.length_singleton, Nat.mul_one, Nat.add_zero] at this
      rw [this]
      simp [List.getD, hi', f, hz]
    · simp only [List.mem_map, List.mem_range] at hn
      obtain ⟨i, hi, rfl⟩ := hn
      obtain ⟨z, hz, hw⟩ := hr i hi
      simpa [f, hz] using hw
theorem Leaf.row {w : World} {k : IntKind} {a : Option Addr} {len cap : Nat} (h : Leaf w (.tab [.int k]) (.slice a len cap)) : ∃ zs, IsRow k w a len cap zs := by
  obtain ⟨_, _, _, zs, e, h⟩ := h.ints
  cases e
  exact ⟨zs, h⟩
theorem Leaf.num {w : World} {k : IntKind} {v : Value} (h : Leaf w (.int k) v) : ∃ z, v = .int k z ∧ (Lit.int k z).wf = true := by
  cases h with | int _ z hw => exact ⟨z, rfl, hw⟩
theorem Leaf.flag {w : World} {v : Value} (h : Leaf w .bool v) : ∃ b, v = .bool b := by
  cases h with | bool b => exact ⟨b, rfl⟩
theorem Leaf.text {w : World} {v : Value} (h : Leaf w .str v) : ∃ s, v = .string s ∧ s.size ≤ maxLen := by
  cases h with | str s hs => exact ⟨s, rfl, hs⟩
theorem Leaf.stays {w w' : World} (hb : Below w.heap.size w w') {k : Kind} {v : Value} (h : Leaf w k v) : Leaf w' k v := by
  induction h with
  | int k z hw => exact .int k z hw
  | bool b => exact .bool b
  | str s hs => exact .str s hs
  | nil ks => exact .nil ks
  | tab ks x len cap R hl hm hc _ ih => exact .tab ks x len cap R hl hm (fun i hi j k hj => by rw [hb.cell (block_lt_of_cell (hc i hi j k hj))]; exact hc i hi j k hj) ih
theorem Leaves.stays {w w' : World} (hb : Below w.heap.size w w') : ∀ {ks : List Kind} {vs : List Value}, Leaves w ks vs → Leaves w' ks vs
  | [], [], _ => trivial
  | _ :: _, _ :: _, h => ⟨h.1.stays hb, Leaves.stays hb h.2⟩
  | [], _ :: _, h => h.elim
  | _ :: _, [], h => h.elim
theorem Leaves.cons {w : World} {k : Kind} {ks : List Kind} {vs : List Value} (h : Leaves w (k :: ks) vs) : ∃ v vs', vs = v :: vs' ∧ Leaf w k v ∧ Leaves w ks vs' := by
  cases vs with
  | nil => exact h.elim
  | cons v vs => exact ⟨v, vs, rfl, h⟩
theorem Leaves.end {w : World} {vs : List Value} (h : Leaves w [] vs) : vs = [] := by
  cases vs with
  | nil => rfl
  | cons v vs => exact h.elim
/-- The cells of a table that is not empty lie in one block, from one place on. -/
theorem Leaf.spot {w : World} {ks : List Kind} {x : Addr} {len cap : Nat} (h : Leaf w (.tab ks) (.slice (some x) len cap)) (h0 : 0 < len) (hk : 0 < ks.length) : x.block < w.heap.size ∧ x = ⟨x.block, x.off, none⟩ := by
  cases h with
  | tab _ _ _ _ R hl hm hc _ =>
    have := hc 0 (by omega) 0 _ (List.getElem?_eq_getElem hk)
    simp only [Nat.zero_mul, Nat.add_zero] at this
    obtain ⟨b, o, s⟩ := x
    have hs : s = none := by simpa [Addr.add] using World.cell?_spot this
    subst hs
    exact ⟨by simpa [Addr.add] using block_lt_of_cell this, rfl⟩
theorem Leaf.one {w : World} {k : Kind} {v : Value} (h : Leaf w k v) : v.oneCell' = true := by
  cases h <;> simp [Value.oneCell']
theorem Leaves.one {w : World} : ∀ {ks : List Kind} {vs : List Value}, Leaves w ks vs → ∀ v ∈ vs, v.oneCell' = true
  | [], [], _ => by simp
  | _ :: _, _ :: _, h => by
    intro v hv
    rcases List.mem_cons.1 hv with rfl | hv
    · exact h.1.one
    · exact Leaves.one h.2 v hv
  | [], _ :: _, h => h.elim
  | _ :: _, [], h => h.elim
/-! ### The structs of package api -/
def markKs : List Kind := [.int .i64, .int .i64, .int .i64]
def eventKs : List Kind := [.int .i64, .int .i64, .int .i64]
def vecKs : List Kind := [.int .i64, .int .i64, .int .i64]
def ptKs : List Kind := [.int .i64, .int .i64]
def toolKs : List Kind := [.int .i64, .int .i64, .int .i64, .int .i64]
def overrideKs : List Kind := [.int .i64, .int .i64, .bool, .bool, .bool]
def axisKs : List Kind := [.int .i64, .int .i64, .int .i64, .int .i64, .int .i64, .int .i64, .int .i64, .int .i64, .int .i64, .tab [.int .i64]]
def itemKs : List Kind := [.int .i64, .int .i64, .int .i64, .int .i64, .int .i64, .int .i64, .int .i64, .int .i64, .int .i64, .int .i64, .int .i64, .int .i64, .int .i64, .bool, .int .i64, .bool, .int .i64, .int .i64, .int .i64, .int .i64, .int .i64, .bool]
def tokenKs : List Kind := [.int .i64, .int .i64, .int .i64, .str]
def valueKs : List Kind := [.int .i64, .int .i64]
end Go.Proofs.YtefdjdipbnnoaaaGreatDoor

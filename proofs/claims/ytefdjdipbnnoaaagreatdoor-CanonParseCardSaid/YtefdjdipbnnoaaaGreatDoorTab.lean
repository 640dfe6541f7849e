/-
  Tables: elements of C cells each, that lie where a slice leads. No program's function is named in it.
-/
import Derived.Test.YtefdjdipbnnoaaaGreatDoorArgs
import Derived.Laws.AppendOwnNone
namespace Go.Proofs.YtefdjdipbnnoaaaGreatDoor
open Go Go.RowKit
set_option linter.unusedVariables false

/-- n elements of C cells each. -/
def TabAt (w : World) (a : Option Addr) (C n : Nat) (f : Nat → List Value) : Prop := ∀ i, i < n → (f i).length = C ∧ ∃ b o, a = some ⟨b, o, none⟩ ∧ b < w.heap.size ∧ ∀ j, j < C → w.cell? ⟨b, o + i * C + j, none⟩ = (f i)[j]?
section
variable {w w' : World} {a : Option Addr} {C n : Nat} {f : Nat → List Value}
theorem TabAt.below (h : TabAt w a C n f) (hb : Below w.heap.size w w') : TabAt w' a C n f := fun i hi => by
  obtain ⟨hl, b, o, e, hlt, hc⟩ := h i hi
  exact ⟨hl, b, o, e, by have := hb.size; omega, fun j hj => (hb.cell hlt).trans (hc j hj)⟩
theorem TabAt.drewN (h : TabAt w a C n f) (k : Nat) : TabAt (w.drewN k) a C n f := h
theorem TabAt.congr {g : Nat → List Value} (h : TabAt w a C n f) (hg : ∀ i, i < n → f i = g i) : TabAt w a C n g := fun i hi => by rw [← hg i hi]; exact h i hi
theorem TabAt.less {m : Nat} (h : TabAt w a C n f) (hm : m ≤ n) : TabAt w a C m f := fun i hi => h i (by omega)
/-- A table that came in. -/
theorem TabAt.of_leaf {ks : List Kind} {len cap : Nat} (h : Leaf w (.tab ks) (.slice a len cap)) (hk : ks.length = C) (h0 : 0 < C) : ∃ f, TabAt w a C len f ∧ (∀ i, i < len → Leaves w ks (f i)) ∧ len ≤ 9223372036854775807 ∧ (a = none → len = 0 ∧ cap = 0) := by
  cases h with
  | nil => exact ⟨fun _ => [], fun i hi => by omega, fun i hi => by omega, by omega, fun _ => ⟨rfl, rfl⟩⟩
  | tab _ x len cap R hl hm hc hL =>
    have hmax : len ≤ 9223372036854775807 := by unfold maxLen at hm; omega
    subst hk
    have hleaf : ∀ (l : List Kind) (i o : Nat), i < len → (∀ j k, l[j]? = some k → ks[o + j]? = some k) → Leaves w l ((List.range l.length).map fun j => R i (o + j)) := by
      intro l
      induction l with
      | nil => intro i o _ _; simp [Leaves]
      | cons k l ih =>
        intro i o hi hk
        rw [List.length_cons, List.range_succ_eq_map, List.map_cons, List.map_map]
        refine ⟨hL i (by omega) o k (by simpa using hk 0 k rfl), ?_⟩
        have := ih i (o + 1) hi (fun j k' hj => by have := hk (j + 1) k' (by simpa using hj); rwa [show o + (j + 1) = o + 1 + j by omega] at this)
        have e : ((fun j => R i (o + j)) ∘ Nat.succ) = fun j => R i (o + 1 + j) := by funext j; simp only [Function.comp]; congr 1; omega
        rw [e]
        exact this
    refine ⟨fun i => (List.range ks.length).map fun j => R i j, fun i hi => ⟨by simp, ?_⟩, fun i hi => ?_, hmax, fun h => by cases h⟩
    · have hx : ∀ i, i < len → ∀ j, j < ks.length → w.cell? (x.add (i * ks.length + j)) = some (R i j) := fun i hi j hj => hc i (by omega) j _ (List.getElem?_eq_getElem hj)
      have h00 := hx 0 (by omega) 0 h0
      obtain ⟨b, o, s⟩ := x
      have hs : s = none := by simpa [Addr.add] using World.cell?_spot h00
      subst hs
      refine ⟨b, o, rfl, by simpa [Addr.add] using block_lt_of_cell h00, fun j hj => ?_⟩
      have := hx i hi j hj
      rw [Addr.add_mid, ← Nat.add_assoc] at this
      rw [this]
      simp [hj]
    · have := hleaf ks i 0 hi (by intro j k hj; simpa using hj)
      simpa using this
/-- The cells of a table, one behind the other. -/
def flat (f : Nat → List Value) (n : Nat) : List Value := (List.range n).flatMap f
theorem flat_succ (f : Nat → List Value) (n : Nat) : flat f (n + 1) = flat f n ++ f n := by unfold flat; rw [List.range_succ, List.flatMap_append]; simp
theorem flat_len (hl : ∀ i, i < n → (f i).length = C) : (flat f n).length = n * C := by
  induction n with
  | zero => simp [flat]
  | succ n ih => rw [flat_succ, List.length_append, ih (fun i hi => hl i (by omega)), hl n (by omega), Nat.add_mul, Nat.one_mul]
theorem flat_at (hl : ∀ i, i < n → (f i).length = C) {i j : Nat} (hi : i < n) (hj : j < C) : (flat f n)[i * C + j]? = (f i)[j]? := by
  induction n with
  | zero => omega
  | succ n ih =>
    have hfl := flat_len (f := f) (n := n) (C := C) (fun i hi => hl i (by omega))
    rw [flat_succ]
    by_cases h : i < n
    · have : i * C + j < n * C := by
        have : (i + 1) * C ≤ n * C := Nat.mul_le_mul_right _ h
        rw [Nat.add_mul, Nat.one_mul] at this; omega
      rw [List.getElem?_append_left (by omega)]
      exact ih (fun i hi => hl i (by omega)) h
    · obtain rfl : i = n := by omega
      rw [List.getElem?_append_right (by omega), hfl]
      congr 1; omega
theorem flat_div (hC : 0 < C) (hl : ∀ i, i < n → (f i).length = C) {j : Nat} {u : Value} (hj : (flat f n)[j]? = some u) : j / C < n ∧ j % C < C ∧ (f (j / C))[j % C]? = some u := by
  have h1 : j < n * C := by rw [← flat_len hl]; exact (List.getElem?_eq_some_iff.1 hj).1
  have h2 : j / C < n := (Nat.div_lt_iff_lt_mul hC).2 h1
  have h3 := Nat.mod_lt j hC
  refine ⟨h2, h3, ?_⟩
  rw [← flat_at hl h2 h3, Nat.div_add_mod' j C]; exact hj
theorem flat_congr {g : Nat → List Value} (h : ∀ i, i < n → f i = g i) : flat f n = flat g n := by
  induction n with
  | zero => rfl
  | succ n ih => rw [flat_succ, flat_succ, ih (fun i hi => h i (by omega)), h n (by omega)]
/-- What append reads of a table. -/
theorem TabAt.cells {x : Addr} (h : TabAt w (some x) C n f) (hC : 0 < C) : ∀ j u, (flat f n)[j]? = some u → w.cell? (x.add j) = some u := by
  intro j u hj
  obtain ⟨h1, h2, h3⟩ := flat_div hC (fun i hi => (h i hi).1) hj
  obtain ⟨_, b, o, e, _, hc⟩ := h _ h1
  injection e with e
  subst e
  rw [Addr.add_mid, ← h3, ← hc _ h2]
  congr 2
  rw [Nat.add_assoc, Nat.div_add_mod' j C]
theorem flat_mem {u : Value} (hu : u ∈ flat f n) : ∃ i, i < n ∧ u ∈ f i := by
  unfold flat at hu
  obtain ⟨i, hi, hm⟩ := List.mem_flatMap.1 hu
  exact ⟨i, by simpa using hi, hm⟩
/-- A table of the call's own, from the head of block g on. -/
def OwnTab (w : World) (g : Nat) (T : TypeId) (C n : Nat) (f : Nat → List Value) : Prop := ∃ cur, Blk w g T cur ∧ ∀ i, i < n → (f i).length = C ∧ ∀ j, j < C → cur[i * C + j]? = (f i)[j]?
theorem OwnTab.tab {g : Nat} {T : TypeId} (h : OwnTab w g T C n f) : TabAt w (some ⟨g, 0, none⟩) C n f := fun i hi => by
  obtain ⟨cur, hb, hc⟩ := h
  refine ⟨(hc i hi).1, g, 0, rfl, hb.lt, fun j hj => ?_⟩
  rw [Nat.zero_add, hb.cell]
  exact (hc i hi).2 j hj
theorem OwnTab.below {g B : Nat} {T : TypeId} (h : OwnTab w g T C n f) (hb : Below B w w') (hg : g < B) : OwnTab w' g T C n f := by
  obtain ⟨cur, hbk, hc⟩ := h
  exact ⟨cur, hbk.below hb hg, hc⟩
theorem OwnTab.lt {g : Nat} {T : TypeId} (h : OwnTab w g T C n f) : g < w.heap.size := by obtain ⟨_, hb, _⟩ := h; exact hb.lt
theorem OwnTab.frozen {g : Nat} {T : TypeId} (h : OwnTab w g T C n f) (i : Nat) : w.frozen? ⟨g, i, none⟩ = false := by obtain ⟨_, hb, _⟩ := h; exact hb.frozen i
theorem OwnTab.drew {g : Nat} {T : TypeId} (h : OwnTab w g T C n f) : OwnTab w.drew g T C n f := h
theorem OwnTab.drewN {g : Nat} {T : TypeId} (h : OwnTab w g T C n f) (k : Nat) : OwnTab (w.drewN k) g T C n f := h
theorem OwnTab.alloc {g : Nat} {T : TypeId} (h : OwnTab w g T C n f) (o : Obj) : OwnTab (w.alloc o) g T C n f := by
  obtain ⟨cur, hbk, hc⟩ := h
  exact ⟨cur, hbk.alloc o, hc⟩
theorem OwnTab.cell {g : Nat} {T : TypeId} (h : OwnTab w g T C n f) {i j : Nat} (hi : i < n) (hj : j < C) : w.cell? ⟨g, i * C + j, none⟩ = (f i)[j]? := by
  obtain ⟨cur, hb, hc⟩ := h
  rw [hb.cell]; exact (hc i hi).2 j hj
theorem OwnTab.congr {g : Nat} {T : TypeId} {f' : Nat → List Value} (h : OwnTab w g T C n f) (hg : ∀ i, i < n → f i = f' i) : OwnTab w g T C n f' := by
  obtain ⟨cur, hb, hc⟩ := h
  exact ⟨cur, hb, fun i hi => by rw [← hg i hi]; exact hc i hi⟩
theorem OwnTab.put {g : Nat} {T : TypeId} (h : OwnTab w g T C n f) {k j : Nat} (hk : k < n) (hj : j < C) (u : Value) : OwnTab (w.setCell ⟨g, k * C + j, none⟩ u) g T C n (fun i => if i = k then (f i).set j u else f i) := by
  obtain ⟨cur, hb, hc⟩ := h
  refine ⟨_, hb.put (k * C + j) u, fun i hi => ?_⟩
  obtain ⟨hl, hcell⟩ := hc i hi
  have hkl : k * C + j < cur.size := by
    have := (hc k hk).2 j hj
    rw [List.getElem?_eq_getElem (by rw [(hc k hk).1]; exact hj)] at this
    exact (Array.getElem?_eq_some_iff.1 this).1
  by_cases e : i = k
  · subst e
    simp only [if_true]
    refine ⟨by simpa using hl, fun j' hj' => ?_⟩
    by_cases e2 : j = j'
    · subst e2
      rw [Array.getElem?_setIfInBounds_self_of_lt hkl, List.getElem?_set_self (by omega)]
    · rw [Array.getElem?_setIfInBounds_ne (by omega), List.getElem?_set_ne e2]
      exact hcell j' hj'
  · simp only [e, if_false]
    refine ⟨hl, fun j' hj' => ?_⟩
    have hne : k * C + j ≠ i * C + j' := by
      rcases Nat.lt_or_gt_of_ne e with h1 | h1
      · have : (i + 1) * C ≤ k * C := Nat.mul_le_mul_right _ h1
        rw [Nat.add_mul, Nat.one_mul] at this; omega
      · have : (k + 1) * C ≤ i * C := Nat.mul_le_mul_right _ h1
        rw [Nat.add_mul, Nat.one_mul] at this; omega
    rw [Array.getElem?_setIfInBounds_ne hne]
    exact hcell j' hj'
theorem OwnTab.of_own {base : Nat} {T : TypeId} {v : Value} (h : w.ownsRow base T C v n (flat f n)) (hl : ∀ i, i < n → (f i).length = C) :
    (v = .slice none 0 0 ∧ n = 0) ∨ ∃ g cap, v = .slice (some ⟨g, 0, none⟩) n cap ∧ base ≤ g ∧ OwnTab w g T C n f := by
  rcases h.2 with h | ⟨g, cap, cur, rfl, hg, hh, hn, _, hs, ht⟩
  · exact .inl h
  · refine .inr ⟨g, cap, rfl, hg, cur, hh, fun i hi => ⟨hl i hi, fun j hj => ?_⟩⟩
    have hij : i * C + j < n * C := by
      have : (i + 1) * C ≤ n * C := Nat.mul_le_mul_right _ hi
      rw [Nat.add_mul, Nat.one_mul] at this; omega
    rw [← flat_at hl hi hj, ← ht, List.getElem?_take_of_lt hij]
    simp
end
/-- append to what is the call's own, of a slice that may be nil. -/
theorem wpList_append_tab {P : Program} {w : World} {ops : Array Oper} {rest : List Oper} {o : Oper} {a : Act} {Q : Exit → Act → World → Prop} (hgd : o.guard = none) (s x : Operand) (t : TypeId)
    (ho : o.op = .call { callee := .builtin .append, args := #[s, x], argTypes := #[t, t] })
    (base : Nat) (e : TypeId) (i : TypeInfo) (z : Value) (size bytes : Nat) (ht : P.underlying t = some (.slice e)) (hi : P.info? e = some i) (hz : i.zero = some z)
    (hsize : i.size = size) (hby : i.bytes = bytes) (hzs : z.cells.size = size) (hsz : 0 < size)
    (v : Value) (n : Nat) (xs : List Value) (hs : a.eval s = v) (hown : w.ownsRow base e size v n xs)
    (ao : Option Addr) (m c : Nat) (news : List Value) (hx : a.eval x = .slice ao m c) (h0 : ao = none → m = 0 ∧ c = 0) (hl : news.length = m * size) (hnews : ∀ ad, ao = some ad → ∀ j u, news[j]? = some u → w.cell? (ad.add j) = some u) (h1 : ∀ u ∈ news, u.oneCell' = true)
    (h63 : n + m ≤ maxLen) (hbytes : (n + m) * bytes ≤ 140737488355328) (hbase : base ≤ w.heap.size)
    (h : ∀ v' w', w'.ownsRow base e size v' (n + m) (xs ++ news) → w.grownBy w' v.ownBlock → (v' = .slice none 0 0 ↔ v = .slice none 0 0 ∧ m = 0) → wpList P ops Q rest (a.put o.dst v') w') : wpList P ops Q (o :: rest) a w := by
  cases ao with
  | some ad => exact wpList_append_own w hgd s x t ho base e i z size bytes ht hi hz hsize hby hzs hsz v n xs hs hown ad m c news hx hl (hnews ad rfl) h1 h63 hbytes hbase h
  | none =>
    obtain ⟨rfl, rfl⟩ := h0 rfl
    obtain rfl : news = [] := List.eq_nil_of_length_eq_zero (by simpa using hl)
    exact wpList_append_own_none hgd s x t ho base e i size ht hi v n xs hs hown hx (h v w (by simpa using hown) (grown_refl _ _) (by simp))
end Go.Proofs.YtefdjdipbnnoaaaGreatDoor

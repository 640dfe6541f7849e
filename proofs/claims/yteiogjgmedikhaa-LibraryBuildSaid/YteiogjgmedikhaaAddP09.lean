/-
  library's builder in memory. No condition.
-/
import Derived.Test.YteiogjgmedikhaaSet09
import Derived.Test.YteiogjgmedikhaaPlan09
import Derived.Test.YteiogjgmedikhaaLit09
namespace Go.Proofs.Yteiogjgmedikhaa
open Go Go.RowKit
set_option linter.unusedVariables false

/-- Integers as rows of one cell. -/
def intC (l : List Int) (i : Nat) : List Value := [.int .i64 (l.getD i 0)]
theorem intC_len (l : List Int) (i : Nat) : (intC l i).length = 1 := rfl
theorem intC_snoc (l : List Int) (x : Int) : flat (fun j => if j = l.length then [.int .i64 x] else intC l j) (l.length + 1) = flat (intC (l ++ [x])) (l.length + 1) :=
  flat_congr fun i hi => by
    unfold intC
    by_cases e : i = l.length
    · subst e; simp [List.getD]
    · rw [if_neg e, List.getD, List.getD, List.getElem?_append_left (by omega)]
theorem flat_ints (l : List Int) : flat (intC l) l.length = l.map (Value.int .i64) := by
  apply List.ext_getElem?
  intro i
  by_cases h : i < l.length
  · have := flat_at (f := intC l) (n := l.length) (C := 1) (fun i _ => rfl) h (Nat.zero_lt_one)
    rw [Nat.mul_one, Nat.add_zero] at this
    rw [this]
    simp [intC, h]
  · have hl := flat_len (f := intC l) (n := l.length) (C := 1) (fun i _ => rfl)
    rw [List.getElem?_eq_none (by omega), List.getElem?_eq_none (by simp; omega)]
theorem own_take {w : World} {base e size n cap m : Nat} {g : Nat} {xs : List Value} (h : w.ownsRow base e size (.slice (some ⟨g, 0, none⟩) n cap) n xs) (hm : m ≤ n) : w.ownsRow base e size (.slice (some ⟨g, 0, none⟩) m cap) m (xs.take (m * size)) := by
  obtain ⟨hl, h⟩ := h
  have hms : m * size ≤ n * size := Nat.mul_le_mul_right _ hm
  refine ⟨by rw [List.length_take]; omega, .inr ?_⟩
  rcases h with ⟨e, _⟩ | ⟨g', cap', cur, e, hb, hh, hn, hc, hs, ht⟩
  · injection e with e; cases e
  · injection e with e1 _ e2
    injection e1 with e1
    injection e1 with e1
    subst e1 e2
    exact ⟨g, cap, cur, rfl, hb, hh, by omega, hc, hs, by rw [← ht, List.take_take, Nat.min_eq_left hms]⟩
theorem own_some {w : World} {base e size n : Nat} {v : Value} {xs : List Value} (h : w.ownsRow base e size v n xs) (hn : 0 < n) : ∃ g cap, v = .slice (some ⟨g, 0, none⟩) n cap ∧ base ≤ g ∧ g < w.heap.size := by
  have hlt := h.lt
  rcases h.2 with ⟨_, e⟩ | ⟨g, cap, cur, e, hb, _⟩
  · omega
  · exact ⟨g, cap, e, hb, (hlt g (by rw [e]; rfl)).2⟩
/-- The cells of program k; 'e': where the last one ends. -/
def progC (P : List (Int × Nat)) (e : Nat) (k : Nat) : List Value := [.int .i64 (P.getD k (0, 0)).1, .int .i64 (P.getD k (0, 0)).2, .int .i64 (if k + 1 < P.length then (P.getD (k + 1) (0, 0)).2 else e : Nat)]
theorem progC_snoc (P : List (Int × Nat)) (n : Int) (i e : Nat) : flat (fun j => if j = P.length then [.int .i64 n, .int .i64 i, .int .i64 (e : Nat)] else progC P i j) (P.length + 1) = flat (progC (P ++ [(n, i)]) e) (P.length + 1) :=
  flat_congr fun k hk => by
    unfold progC
    by_cases h : k = P.length
    · subst h; simp [List.getD]
    · rw [if_neg h]
      have h1 : (P ++ [(n, i)]).getD k (0, 0) = P.getD k (0, 0) := by rw [List.getD, List.getD, List.getElem?_append_left (by omega)]
      rw [h1]
      by_cases h2 : k + 1 < P.length
      · have h3 : (P ++ [(n, i)]).getD (k + 1) (0, 0) = P.getD (k + 1) (0, 0) := by rw [List.getD, List.getD, List.getElem?_append_left (by omega)]
        rw [if_pos h2, if_pos (by simp; omega), h3]
      · have e3 : k + 1 = P.length := by omega
        rw [if_neg h2, if_pos (by simp; omega), e3]
        simp [List.getD]

/-- The builder in memory: its programs, mates, open loops, and the two sets. -/
structure BldAt (base S : Nat) (P : List (Int × Nat)) (e : Nat) (M : List Int) (O : List Nat) (Nk Lk : List Int) (vp vm vo : Value) (bn bl : Nat) (wr : World) : Prop where
  blk : Blk wr S 69 #[vp, vm, vo, .map (some bn), .map (some bl)]
  progs : wr.ownsRow base 55 3 vp P.length (flat (progC P e) P.length)
  mate : wr.ownsRow base 3 1 vm M.length (flat (intC M) M.length)
  op : wr.ownsRow base 3 1 vo O.length (flat (intC (O.map (fun n : Nat => (n : Int)))) O.length)
  dis : ∀ q, vm.ownBlock = some q → vo.ownBlock ≠ some q
  nums : SetAt wr bn Nk
  labs : SetAt wr bl Lk
  ne : bn ≠ bl
  far : base ≤ S ∧ base ≤ bn ∧ base ≤ bl
section
variable {base S : Nat} {P : List (Int × Nat)} {e : Nat} {M : List Int} {O : List Nat} {Nk Lk : List Int} {vp vm vo : Value} {bn bl : Nat} {w w' : World}
theorem BldAt.under (h : BldAt base S P e M O Nk Lk vp vm vo bn bl w) (hb : Below w.heap.size w w') : BldAt base S P e M O Nk Lk vp vm vo bn bl w' :=
  ⟨h.blk.below hb h.blk.lt, own_grown h.progs (grown_of_below hb) (by intro k e; cases e), own_grown h.mate (grown_of_below hb) (by intro k e; cases e), own_grown h.op (grown_of_below hb) (by intro k e; cases e), h.dis, h.nums.below hb h.nums.lt, h.labs.below hb h.labs.lt, h.ne, h.far⟩
theorem set_ne_blk {b g : Nat} {T : TypeId} {cs : Array Value} {ks : List Int} (h : SetAt w b ks) (hb : Blk w g T cs) : b ≠ g := by
  rintro rfl
  obtain ⟨es, c, hh, _⟩ := h
  unfold Blk at hb
  rw [hh] at hb
  cases hb
theorem set_ne_own {b : Nat} {ks : List Int} (h : SetAt w b ks) {n size T : Nat} {v : Value} {xs : List Value} (hb : w.ownsRow base T size v n xs) : some b ≠ v.ownBlock := by
  obtain ⟨es, c, hh, _⟩ := h
  rcases hb.2 with ⟨rfl, _⟩ | ⟨g, cap, cur, rfl, _, h2, _⟩
  · simp [Value.ownBlock]
  · intro e'
    have : b = g := by simpa [Value.ownBlock] using e'
    subst this
    rw [hh] at h2
    cases h2
theorem own_ne_own {n size T n' size' T' : Nat} {v v' : Value} {xs xs' : List Value} (h : w.ownsRow base T size v n xs) (h' : w.ownsRow base T' size' v' n' xs') (hT : T ≠ T') : ∀ q, v.ownBlock = some q → v'.ownBlock ≠ some q := by
  intro q e1 e2
  rcases h.2 with ⟨rfl, _⟩ | ⟨g, cap, cur, rfl, _, h2, _⟩
  · cases e1
  · rcases h'.2 with ⟨rfl, _⟩ | ⟨g', cap', cur', rfl, _, h2', _⟩
    · cases e2
    · simp [Value.ownBlock] at e1 e2
      subst e1
      subst e2
      rw [h2] at h2'
      injection h2' with h2'
      injection h2' with _ h2'
      exact hT h2'
/-- What a store into the builder's own block leaves. -/
theorem own_set {n size T : Nat} {v : Value} {xs : List Value} (h : w.ownsRow base T size v n xs) {cs : Array Value} (hb : Blk w S 69 cs) (hT : T ≠ 69) (j : Nat) (u : Value) : (w.setCell ⟨S, j, none⟩ u).ownsRow base T size v n xs :=
  own_setCell (p := ⟨S, j, none⟩) h hb hT
theorem SetAt.far' {b : Nat} {ks : List Int} (h : SetAt w b ks) {p : Addr} (hp : b ≠ p.block) (u : Value) : SetAt (w.setCell p u) b ks := h.keep (Below.heap_setCell w p u b hp)
/-- A mate is appended. -/
theorem BldAt.pushMate (h : BldAt base S P e M O Nk Lk vp vm vo bn bl w) {x : Int} {g c : Nat} {w2 : World} (hp : Pushed w base 3 1 vm M.length (intC M) [.int .i64 x] g c w2) :
    BldAt base S P e (M ++ [x]) O Nk Lk vp (.slice (some ⟨g, 0, none⟩) (M.length + 1) c) vo bn bl (w2.setCell ⟨S, 1, none⟩ (.slice (some ⟨g, 0, none⟩) (M.length + 1) c)) := by
  have hS : some S ≠ vm.ownBlock := own_ne h.mate h.blk (by decide)
  have hb2 := h.blk.grown hp.grown hS
  have hpr : w2.ownsRow base 55 3 vp P.length (flat (progC P e) P.length) := h.progs.kept hp.grown (by
    cases hv : vp.ownBlock with
    | none => exact .inl rfl
    | some q => exact .inr (fun e => own_ne_own h.progs h.mate (by decide) q hv e.symm))
  have hop : w2.ownsRow base 3 1 vo O.length (flat (intC (O.map (fun n : Nat => (n : Int)))) O.length) := h.op.kept hp.grown (by
    cases hv : vo.ownBlock with
    | none => exact .inl rfl
    | some q => exact .inr (fun e => h.dis q e.symm hv))
  have hm := hp.own
  rw [intC_snoc] at hm
  refine ⟨hb2.put 1 _, own_set hpr hb2 (by decide) 1 _, ?_, own_set hop hb2 (by decide) 1 _, fun q hq => ?_, (h.nums.grown hp.grown (set_ne_own h.nums h.mate)).far' (set_ne_blk (h.nums.grown hp.grown (set_ne_own h.nums h.mate)) hb2) _, (h.labs.grown hp.grown (set_ne_own h.labs h.mate)).far' (set_ne_blk (h.labs.grown hp.grown (set_ne_own h.labs h.mate)) hb2) _, h.ne, h.far⟩
  · rw [List.length_append]
    exact own_set hm hb2 (by decide) 1 _
  · simp [Value.ownBlock] at hq
    subst hq
    intro e2
    rcases hp.at' with e1 | e1
    · exact h.dis _ e1 e2
    · have := h.op.lt _ e2; omega
/-- An open loop is appended. -/
theorem BldAt.pushOp (h : BldAt base S P e M O Nk Lk vp vm vo bn bl w) {i : Nat} {g c : Nat} {w2 : World} (hp : Pushed w base 3 1 vo O.length (intC (O.map (fun n : Nat => (n : Int)))) [.int .i64 i] g c w2) :
    BldAt base S P e M (O ++ [i]) Nk Lk vp vm (.slice (some ⟨g, 0, none⟩) (O.length + 1) c) bn bl (w2.setCell ⟨S, 2, none⟩ (.slice (some ⟨g, 0, none⟩) (O.length + 1) c)) := by
  have hS : some S ≠ vo.ownBlock := own_ne h.op h.blk (by decide)
  have hb2 := h.blk.grown hp.grown hS
  have hpr : w2.ownsRow base 55 3 vp P.length (flat (progC P e) P.length) := h.progs.kept hp.grown (by
    cases hv : vp.ownBlock with
    | none => exact .inl rfl
    | some q => exact .inr (fun e => own_ne_own h.progs h.op (by decide) q hv e.symm))
  have hmt : w2.ownsRow base 3 1 vm M.length (flat (intC M) M.length) := h.mate.kept hp.grown (by
    cases hv : vm.ownBlock with
    | none => exact .inl rfl
    | some q => exact .inr (fun e => h.dis q hv e.symm))
  have hm := hp.own
  have hlen : O.length = (O.map (fun n : Nat => (n : Int))).length := by simp
  have hm2 : w2.ownsRow base 3 1 (.slice (some ⟨g, 0, none⟩) (O.length + 1) c) (O.length + 1) (flat (intC ((O ++ [i]).map (fun n : Nat => (n : Int)))) (O.length + 1)) := by
    have := intC_snoc (O.map (fun n : Nat => (n : Int))) i
    rw [← hlen] at this
    rw [this] at hm
    simpa using hm
  refine ⟨hb2.put 2 _, own_set hpr hb2 (by decide) 2 _, own_set hmt hb2 (by decide) 2 _, ?_, fun q hq => ?_, (h.nums.grown hp.grown (set_ne_own h.nums h.op)).far' (set_ne_blk (h.nums.grown hp.grown (set_ne_own h.nums h.op)) hb2) _, (h.labs.grown hp.grown (set_ne_own h.labs h.op)).far' (set_ne_blk (h.labs.grown hp.grown (set_ne_own h.labs h.op)) hb2) _, h.ne, h.far⟩
  · rw [List.length_append]
    exact own_set hm2 hb2 (by decide) 2 _
  · simp only [Value.ownBlock, ne_eq, Option.some.injEq]
    intro e2
    rcases hp.at' with e1 | e1
    · exact h.dis _ hq (by rw [e1, e2])
    · have := h.mate.lt _ hq; omega
/-- A program is appended; the one ahead of it ends at i. -/
theorem BldAt.pushProg {i : Nat} (h : BldAt base S P i M O Nk Lk vp vm vo bn bl w) {n : Int} {g c : Nat} {w2 : World} (hp : Pushed w base 55 3 vp P.length (progC P i) [.int .i64 n, .int .i64 i, .int .i64 (0 : Nat)] g c w2) :
    BldAt base S (P ++ [(n, i)]) 0 M O Nk Lk (.slice (some ⟨g, 0, none⟩) (P.length + 1) c) vm vo bn bl (w2.setCell ⟨S, 0, none⟩ (.slice (some ⟨g, 0, none⟩) (P.length + 1) c)) := by
  have hS : some S ≠ vp.ownBlock := own_ne h.progs h.blk (by decide)
  have hb2 := h.blk.grown hp.grown hS
  have hmt : w2.ownsRow base 3 1 vm M.length (flat (intC M) M.length) := h.mate.kept hp.grown (by
    cases hv : vm.ownBlock with
    | none => exact .inl rfl
    | some q => exact .inr (fun e => own_ne_own h.mate h.progs (by decide) q hv e.symm))
  have hop : w2.ownsRow base 3 1 vo O.length (flat (intC (O.map (fun n : Nat => (n : Int)))) O.length) := h.op.kept hp.grown (by
    cases hv : vo.ownBlock with
    | none => exact .inl rfl
    | some q => exact .inr (fun e => own_ne_own h.op h.progs (by decide) q hv e.symm))
  have hm := hp.own
  rw [progC_snoc] at hm
  refine ⟨hb2.put 0 _, ?_, own_set hmt hb2 (by decide) 0 _, own_set hop hb2 (by decide) 0 _, h.dis, (h.nums.grown hp.grown (set_ne_own h.nums h.progs)).far' (set_ne_blk (h.nums.grown hp.grown (set_ne_own h.nums h.progs)) hb2) _, (h.labs.grown hp.grown (set_ne_own h.labs h.progs)).far' (set_ne_blk (h.labs.grown hp.grown (set_ne_own h.labs h.progs)) hb2) _, h.ne, h.far⟩
  rw [List.length_append]
  exact own_set hm hb2 (by decide) 0 _
theorem flat_set {f : Nat → List Value} {C n : Nat} (hl : ∀ i, i < n → (f i).length = C) (hC : 0 < C) {k j : Nat} (hk : k < n) (hj : j < C) (u : Value) : (flat f n).set (k * C + j) u = flat (fun i => if i = k then (f i).set j u else f i) n := by
  have hl' : ∀ i, i < n → ((fun i => if i = k then (f i).set j u else f i) i).length = C := fun i hi => by
    simp only
    split
    · simp [hl i hi]
    · exact hl i hi
  apply List.ext_getElem?
  intro q
  by_cases hq : q < n * C
  · have h1 : q / C < n := (Nat.div_lt_iff_lt_mul hC).2 hq
    have h2 := Nat.mod_lt q hC
    have e2 := flat_at hl' h1 h2
    have e1 := flat_at hl h1 h2
    rw [Nat.div_add_mod' q C] at e1 e2
    rw [e2, List.getElem?_set, flat_len hl, e1]
    by_cases e : q / C = k
    · subst e
      simp only [if_true]
      rw [List.getElem?_set, hl _ hk]
      by_cases ej : j = q % C
      · subst ej
        rw [Nat.div_add_mod' q C, if_pos rfl, if_pos hq, if_pos rfl, if_pos hj]
      · rw [if_neg ej, if_neg (by have := Nat.div_add_mod' q C; omega)]
    · simp only [e, if_false]
      rw [if_neg]
      intro e3
      apply e
      rw [← e3, Nat.add_comm, Nat.add_mul_div_right _ _ hC, Nat.div_eq_of_lt hj, Nat.zero_add]
  · rw [List.getElem?_eq_none (by rw [List.length_set, flat_len hl]; omega), List.getElem?_eq_none (by rw [flat_len hl']; omega)]
theorem progC_end {P : List (Int × Nat)} (hP : P ≠ []) (e i : Nat) : (flat (progC P e) P.length).set ((P.length - 1) * 3 + 2) (.int .i64 i) = flat (progC P i) P.length := by
  have hpos : 0 < P.length := List.length_pos_iff.2 hP
  rw [flat_set (C := 3) (fun _ _ => rfl) (by decide) (by omega) (by decide)]
  refine flat_congr fun k hk => ?_
  unfold progC
  by_cases h : k = P.length - 1
  · rw [if_pos h]
    have : ¬ k + 1 < P.length := by omega
    simp [this]
  · rw [if_neg h]
    have : k + 1 < P.length := by omega
    simp [this]
theorem intC_set (l : List Int) {k : Nat} (hk : k < l.length) (x : Int) : (flat (intC l) l.length).set k (.int .i64 x) = flat (intC (l.set k x)) l.length := by
  have := flat_set (f := intC l) (n := l.length) (C := 1) (fun _ _ => rfl) (by decide) hk (j := 0) (by decide) (.int .i64 x)
  rw [Nat.mul_one, Nat.add_zero] at this
  rw [this]
  refine flat_congr fun i hi => ?_
  unfold intC
  by_cases e : i = k
  · subst e; simp [hk]
  · simp [e, List.getElem?_set_ne (Ne.symm e)]
theorem intC_take (l : List Int) {m : Nat} (hm : m ≤ l.length) : (flat (intC l) l.length).take (m * 1) = flat (intC (l.take m)) m := by
  apply List.ext_getElem?
  intro q
  rw [Nat.mul_one, List.getElem?_take]
  by_cases h : q < m
  · rw [if_pos h]
    have e1 := flat_at (f := intC l) (n := l.length) (C := 1) (fun _ _ => rfl) (show q < l.length by omega) (Nat.zero_lt_one)
    have e2 := flat_at (f := intC (l.take m)) (n := m) (C := 1) (fun _ _ => rfl) h (Nat.zero_lt_one)
    rw [Nat.mul_one, Nat.add_zero] at e1 e2
    rw [e1, e2]
    simp [intC, h]
  · rw [if_neg h, List.getElem?_eq_none (by rw [flat_len (C := 1) (fun _ _ => rfl)]; omega)]
/-- The last program ends at i. -/
theorem BldAt.endSet (h : BldAt base S P e M O Nk Lk vp vm vo bn bl w) (hP : P ≠ []) {g c : Nat} (hv : vp = .slice (some ⟨g, 0, none⟩) P.length c) (i : Nat) :
    BldAt base S P i M O Nk Lk vp vm vo bn bl (w.setCell ⟨g, (P.length - 1) * 3 + 2, none⟩ (.int .i64 i)) := by
  subst hv
  obtain ⟨h1, h2⟩ := h.progs.stored ((P.length - 1) * 3 + 2) (.int .i64 i)
  rw [progC_end hP] at h1
  have hS : some S ≠ some g := fun e => own_ne h.progs h.blk (by decide) e
  refine ⟨h.blk.grown h2 hS, h1, h.mate.kept h2 ?_, h.op.kept h2 ?_, h.dis, h.nums.grown h2 (fun e => set_ne_own h.nums h.progs e), h.labs.grown h2 (fun e => set_ne_own h.labs h.progs e), h.ne, h.far⟩
  · cases hv : vm.ownBlock with
    | none => exact .inl rfl
    | some q => exact .inr (fun e => own_ne_own h.mate h.progs (by decide) q hv e.symm)
  · cases hv : vo.ownBlock with
    | none => exact .inl rfl
    | some q => exact .inr (fun e => own_ne_own h.op h.progs (by decide) q hv e.symm)
/-- A new set of labels. -/
theorem BldAt.newLabs (h : BldAt base S P e M O Nk Lk vp vm vo bn bl w) (hb : base ≤ w.heap.size) :
    BldAt base S P e M O Nk [] vp vm vo bn w.heap.size ((w.alloc (.map #[] 0)).setCell ⟨S, 4, none⟩ (.map (some w.heap.size))) := by
  have h1 := h.under ((Below.refl w.heap.size w).alloc (Nat.le_refl _) (.map #[] 0))
  have hl := SetAt.new w
  refine ⟨h1.blk.put 4 _, own_set h1.progs h1.blk (by decide) 4 _, own_set h1.mate h1.blk (by decide) 4 _, own_set h1.op h1.blk (by decide) 4 _, h.dis, h1.nums.far' (set_ne_blk h1.nums h1.blk) _, hl.far' (set_ne_blk hl h1.blk) _, by have := h.nums.lt; omega, h.far.1, h.far.2.1, hb⟩
/-- A label, a number is kept. -/
theorem BldAt.addLab (h : BldAt base S P e M O Nk Lk vp vm vo bn bl w) {x : Int} (hs : SetAt w' bl (Lk ++ [x])) (hg : w.grownBy w' (some bl)) : BldAt base S P e M O Nk (Lk ++ [x]) vp vm vo bn bl w' := by
  refine ⟨h.blk.grown hg (fun e => set_ne_blk h.labs h.blk (by injection e with e; exact e.symm)), h.progs.kept hg ?_, h.mate.kept hg ?_, h.op.kept hg ?_, h.dis, h.nums.grown hg (fun e => h.ne (by injection e)), hs, h.ne, h.far⟩
  · exact .inr fun e => set_ne_own h.labs h.progs e.symm
  · exact .inr fun e => set_ne_own h.labs h.mate e.symm
  · exact .inr fun e => set_ne_own h.labs h.op e.symm
theorem BldAt.addNum (h : BldAt base S P e M O Nk Lk vp vm vo bn bl w) {x : Int} (hs : SetAt w' bn (Nk ++ [x])) (hg : w.grownBy w' (some bn)) : BldAt base S P e M O (Nk ++ [x]) Lk vp vm vo bn bl w' := by
  refine ⟨h.blk.grown hg (fun e => set_ne_blk h.nums h.blk (by injection e with e; exact e.symm)), h.progs.kept hg ?_, h.mate.kept hg ?_, h.op.kept hg ?_, h.dis, hs, h.labs.grown hg (fun e => h.ne (by injection e with e; exact e.symm)), h.ne, h.far⟩
  · exact .inr fun e => set_ne_own h.nums h.progs e.symm
  · exact .inr fun e => set_ne_own h.nums h.mate e.symm
  · exact .inr fun e => set_ne_own h.nums h.op e.symm
/-- A loop is closed. -/
theorem BldAt.pop (h : BldAt base S P e M O Nk Lk vp vm vo bn bl w) {go co gm cm : Nat} (hvo : vo = .slice (some ⟨go, 0, none⟩) O.length co) (hvm : vm = .slice (some ⟨gm, 0, none⟩) M.length cm) {t i : Nat} (ht : t < M.length) (hi : i < M.length) :
    BldAt base S P e ((M.set t i).set i t) O.dropLast Nk Lk vp vm (.slice (some ⟨go, 0, none⟩) (O.length - 1) co) bn bl
      (((w.setCell ⟨S, 2, none⟩ (.slice (some ⟨go, 0, none⟩) (O.length - 1) co)).setCell ⟨gm, t, none⟩ (.int .i64 i)).setCell ⟨gm, i, none⟩ (.int .i64 t)) := by
  subst hvo hvm
  have hop1 : w.ownsRow base 3 1 (.slice (some ⟨go, 0, none⟩) (O.length - 1) co) (O.length - 1) (flat (intC (O.dropLast.map (fun n : Nat => (n : Int)))) (O.length - 1)) := by
    have h1 := own_take h.op (m := O.length - 1) (by omega)
    have hlen : O.length = (O.map (fun n : Nat => (n : Int))).length := by simp
    have h2 := intC_take (O.map (fun n : Nat => (n : Int))) (m := O.length - 1) (by simp)
    rw [← hlen] at h2
    rw [h2] at h1
    have e1 : (O.map (fun n : Nat => (n : Int))).take (O.length - 1) = O.dropLast.map (fun n : Nat => (n : Int)) := by rw [← List.map_take, List.dropLast_eq_take]
    rwa [e1] at h1
  have a1 : BldAt base S P e M O.dropLast Nk Lk vp (.slice (some ⟨gm, 0, none⟩) M.length cm) (.slice (some ⟨go, 0, none⟩) (O.length - 1) co) bn bl (w.setCell ⟨S, 2, none⟩ (.slice (some ⟨go, 0, none⟩) (O.length - 1) co)) := by
    refine ⟨h.blk.put 2 _, own_set h.progs h.blk (by decide) 2 _, own_set h.mate h.blk (by decide) 2 _, ?_, h.dis, h.nums.far' (set_ne_blk h.nums h.blk) _, h.labs.far' (set_ne_blk h.labs h.blk) _, h.ne, h.far⟩
    rw [List.length_dropLast]
    exact own_set hop1 h.blk (by decide) 2 _
  have step : ∀ {M' : List Int} {w1 : World}, M'.length = M.length → BldAt base S P e M' O.dropLast Nk Lk vp (.slice (some ⟨gm, 0, none⟩) M.length cm) (.slice (some ⟨go, 0, none⟩) (O.length - 1) co) bn bl w1 → ∀ {k : Nat} (hk : k < M.length) (x : Int),
      BldAt base S P e (M'.set k x) O.dropLast Nk Lk vp (.slice (some ⟨gm, 0, none⟩) M.length cm) (.slice (some ⟨go, 0, none⟩) (O.length - 1) co) bn bl (w1.setCell ⟨gm, k, none⟩ (.int .i64 x)) := by
    intro M' w1 hM b k hk x
    have hmt := b.mate
    rw [hM] at hmt
    obtain ⟨h1, h2⟩ := hmt.stored k (.int .i64 x)
    have hms := intC_set M' (k := k) (by omega) x
    rw [hM] at hms
    rw [hms] at h1
    refine ⟨b.blk.grown h2 (fun e => own_ne b.mate b.blk (by decide) e), b.progs.kept h2 ?_, by rw [List.length_set, hM]; exact h1, b.op.kept h2 ?_, b.dis, b.nums.grown h2 (fun e => set_ne_own b.nums b.mate e), b.labs.grown h2 (fun e => set_ne_own b.labs b.mate e), b.ne, b.far⟩
    · cases hv : vp.ownBlock with
      | none => exact .inl rfl
      | some q => exact .inr (fun e => own_ne_own b.progs b.mate (by decide) q hv e.symm)
    · exact .inr (fun e => b.dis gm rfl (by rw [e]))
  exact step (by simp) (step rfl a1 ht i) hi t
end
end Go.Proofs.Yteiogjgmedikhaa

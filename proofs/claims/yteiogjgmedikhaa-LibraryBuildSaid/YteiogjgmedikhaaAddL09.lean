/-
  library's add: lemmas.
-/
import Derived.Test.YteiogjgmedikhaaAddA09
import Derived.BigQuiet
namespace Go.Proofs.Yteiogjgmedikhaa
open Go Go.RowKit
set_option linter.unusedVariables false

theorem wf_small {x : Int} (h0 : 0 ≤ x) (h1 : x ≤ 1000000) : (Lit.int .i64 x).wf = true := by
  have e1 : IntKind.i64.min = -9223372036854775808 := rfl
  have e2 : IntKind.i64.max = 9223372036854775807 := rfl
  simp only [Lit.wf, Bool.and_eq_true, decide_eq_true_eq, e1, e2]
  omega
theorem zero_bool (W : World) : (zeroValue 4).run Try.prog W = .ok (.bool false) W := by kernel_rfl
theorem valid_label {b : BlkL} (h : validB b = true) : 0 ≤ b.label ∧ b.label ≤ 99999 := by
  unfold validB at h
  split at h
  · cases h
  · omega
theorem labels_wf {bs : List BlkL} (hv : ∀ (j : Nat) (b : BlkL), bs[j]? = some b → validB b = true) (f i : Nat) : ∀ y ∈ labelsOf bs f i, (Lit.int .i64 y).wf = true := by
  intro y hy
  unfold labelsOf at hy
  simp only [List.mem_filter, List.mem_map] at hy
  obtain ⟨⟨b, hb, rfl⟩, _⟩ := hy
  obtain ⟨j, hj⟩ := List.mem_iff_getElem?.1 (List.mem_of_mem_take (List.mem_of_mem_drop hb))
  have := valid_label (hv j b hj)
  exact wf_small (by omega) (by omega)
theorem add_lab {w : World} {base S N : Nat} {b : BlkL} {p : Place} {P : List (Int × Nat)} {e : Nat} {M : List Int} {O : List Nat} {Nk Lk : List Int} {vp vm vo : Value} {bn bl : Nat} {W W' : World} {x : Int}
    (h : AddSt w base S N b p P e M O Nk Lk vp vm vo bn bl W) (hs : SetAt W' bl (Lk ++ [x])) (hg : W.grownBy W' (some bl)) : AddSt w base S N b p P e M O Nk (Lk ++ [x]) vp vm vo bn bl W' :=
  ⟨h.bld.addLab hs hg, h.blk.grown hg (fun e => set_ne_blk h.bld.labs h.blk (by injection e with e; exact e.symm)), h.bel.trans (below_of_grown hg h.size (fun k e => by injection e with e; have := h.bld.far.2.2; omega)), by have := hg.size; have := h.size; omega⟩
theorem add_num {w : World} {base S N : Nat} {b : BlkL} {p : Place} {P : List (Int × Nat)} {e : Nat} {M : List Int} {O : List Nat} {Nk Lk : List Int} {vp vm vo : Value} {bn bl : Nat} {W W' : World} {x : Int}
    (h : AddSt w base S N b p P e M O Nk Lk vp vm vo bn bl W) (hs : SetAt W' bn (Nk ++ [x])) (hg : W.grownBy W' (some bn)) : AddSt w base S N b p P e M O (Nk ++ [x]) Lk vp vm vo bn bl W' :=
  ⟨h.bld.addNum hs hg, h.blk.grown hg (fun e => set_ne_blk h.bld.nums h.blk (by injection e with e; exact e.symm)), h.bel.trans (below_of_grown hg h.size (fun k e => by injection e with e; have := h.bld.far.2.1; omega)), by have := hg.size; have := h.size; omega⟩

theorem op_at {base S : Nat} {P : List (Int × Nat)} {e : Nat} {M : List Int} {O : List Nat} {Nk Lk : List Int} {vp vm : Value} {lo : Option Addr} {n co : Nat} {bn bl : Nat} {w : World} (h : BldAt base S P e M O Nk Lk vp vm (.slice lo n co) bn bl w) {j t : Nat} (hj : O[j]? = some t) :
    ∃ g, lo = some ⟨g, 0, none⟩ ∧ base ≤ g ∧ g < w.heap.size ∧ w.cell? ⟨g, j, none⟩ = some (.int .i64 t) := by
  have hlt : j < O.length := (List.getElem?_eq_some_iff.1 hj).1
  rcases OwnTab.of_own h.op (fun _ _ => rfl) with ⟨_, e0⟩ | ⟨g, c, e, hg, ht⟩
  · omega
  · injection e with e1
    refine ⟨g, e1, hg, ht.lt, ?_⟩
    have := ht.cell hlt (j := 0) (by decide)
    rw [Nat.mul_one, Nat.add_zero] at this
    rw [this]
    simp [intC, hj]
theorem blk_n {W : World} {bs : List BlkL} {sb so cap : Nat} {pl : Nat → Place} (h : BlksAt W bs (some ⟨sb, so, none⟩) cap pl) {t : Nat} (ht : t < bs.length) : W.cell? ⟨sb, so + t * 11 + 10, none⟩ = some (.int .i64 (nOf bs t)) := by
  have hb := List.getElem?_eq_getElem ht
  obtain ⟨_, b, o, e, _, hc⟩ := h.tab t ht
  injection e with e
  injection e with e1 e2
  subst e1 e2
  rw [hc 10 (by decide), blksC_at hb]
  unfold nOf
  rw [hb]
  rfl
theorem AddSt.under {w : World} {base S N : Nat} {b : BlkL} {p : Place} {P : List (Int × Nat)} {e : Nat} {M : List Int} {O : List Nat} {Nk Lk : List Int} {vp vm vo : Value} {bn bl : Nat} {W W' : World}
    (h : AddSt w base S N b p P e M O Nk Lk vp vm vo bn bl W) (hb : Below W.heap.size W W') : AddSt w base S N b p P e M O Nk Lk vp vm vo bn bl W' :=
  ⟨h.bld.under hb, h.blk.below hb h.blk.lt, h.bel.trans (hb.mono h.size), Nat.le_trans h.size hb.size⟩
/-- The copy of the block and the builder are two. -/
theorem AddSt.two {w : World} {base S N : Nat} {b : BlkL} {p : Place} {P : List (Int × Nat)} {e : Nat} {M : List Int} {O : List Nat} {Nk Lk : List Int} {vp vm vo : Value} {bn bl : Nat} {W : World}
    (h : AddSt w base S N b p P e M O Nk Lk vp vm vo bn bl W) : N ≠ S := by
  rintro rfl
  have h1 := h.blk
  have h2 := h.bld.blk
  unfold Blk at h1 h2
  rw [h1] at h2
  injection h2 with h2
  injection h2 with _ h2
  exact absurd h2 (by decide)

section
variable {w : World} {base S N : Nat} {b : BlkL} {p : Place} {P : List (Int × Nat)} {e : Nat} {M : List Int} {O : List Nat} {Nk Lk : List Int} {vp vm vo : Value} {bn bl : Nat} {W : World}
theorem blk_far {g S : Nat} {T T' : TypeId} {cs cs' : Array Value} (h1 : Blk W g T cs) (h2 : Blk W S T' cs') (hT : T ≠ T') : g ≠ S := by
  rintro rfl
  unfold Blk at h1 h2
  rw [h1] at h2
  injection h2 with h2
  injection h2 with _ h2
  exact hT h2
theorem BldAt.mateAt (h : BldAt base S P e M O Nk Lk vp vm vo bn bl W) {k : Nat} (hk : k < M.length) : ∃ g c, vm = .slice (some ⟨g, 0, none⟩) M.length c ∧ base ≤ g ∧ g < W.heap.size ∧ W.cell? ⟨g, k, none⟩ = some (.int .i64 (M.getD k 0)) ∧ W.frozen? ⟨g, k, none⟩ = false ∧ M.length ≤ c ∧ c ≤ 9223372036854775807 := by
  obtain ⟨aw, cw, e, hrow, hcap⟩ := RowAt.of_own h.mate (fun _ _ => rfl)
  obtain ⟨g, rfl, hg, ht⟩ := hrow.some (by omega)
  refine ⟨g, cw, e, hg, ht.lt, ?_, ht.frozen k, hcap⟩
  have := ht.cell hk (j := 0) (by decide)
  rw [Nat.mul_one, Nat.add_zero] at this
  rw [this]
  rfl
theorem BldAt.opCap (h : BldAt base S P e M O Nk Lk vp vm vo bn bl W) {n : Nat} {lo : Option Addr} {co : Nat} (hv : vo = .slice lo n co) : O.length ≤ co ∧ co ≤ 9223372036854775807 := by
  obtain ⟨aw, cw, e, _, hcap⟩ := RowAt.of_own h.op (fun _ _ => rfl)
  rw [hv] at e
  injection e with _ _ e
  subst e
  exact hcap
theorem AddSt.popOp (h : AddSt w base S N b p P e M O Nk Lk vp vm vo bn bl W) {go co : Nat} (hvo : vo = .slice (some ⟨go, 0, none⟩) O.length co) :
    AddSt w base S N b p P e M O.dropLast Nk Lk vp vm (.slice (some ⟨go, 0, none⟩) (O.length - 1) co) bn bl (W.setCell ⟨S, 2, none⟩ (.slice (some ⟨go, 0, none⟩) (O.length - 1) co)) := by
  subst hvo
  have hop1 : W.ownsRow base 3 1 (.slice (some ⟨go, 0, none⟩) (O.length - 1) co) (O.length - 1) (flat (intC (O.dropLast.map (fun n : Nat => (n : Int)))) (O.length - 1)) := by
    have h1 := own_take h.bld.op (m := O.length - 1) (by omega)
    have hlen : O.length = (O.map (fun n : Nat => (n : Int))).length := by simp
    have h2 := intC_take (O.map (fun n : Nat => (n : Int))) (m := O.length - 1) (by simp)
    rw [← hlen] at h2
    rw [h2] at h1
    have e1 : (O.map (fun n : Nat => (n : Int))).take (O.length - 1) = O.dropLast.map (fun n : Nat => (n : Int)) := by rw [← List.map_take, List.dropLast_eq_take]
    rwa [e1] at h1
  have hb := h.bld
  refine ⟨⟨hb.blk.put 2 _, own_set hb.progs hb.blk (by decide) 2 _, own_set hb.mate hb.blk (by decide) 2 _, ?_, hb.dis, hb.nums.far' (set_ne_blk hb.nums hb.blk) _, hb.labs.far' (set_ne_blk hb.labs hb.blk) _, hb.ne, hb.far⟩, h.blk.far (p := ⟨S, 2, none⟩) (blk_far h.blk hb.blk (by decide)) _, h.bel.setCell hb.far.1 _, by have := h.size; simpa⟩
  rw [List.length_dropLast]
  exact own_set hop1 hb.blk (by decide) 2 _
theorem AddSt.setMate (h : AddSt w base S N b p P e M O Nk Lk vp vm vo bn bl W) {g c : Nat} (hvm : vm = .slice (some ⟨g, 0, none⟩) M.length c) {k : Nat} (hk : k < M.length) (x : Int) :
    AddSt w base S N b p P e (M.set k x) O Nk Lk vp vm vo bn bl (W.setCell ⟨g, k, none⟩ (.int .i64 x)) := by
  have hb := h.bld
  subst hvm
  obtain ⟨h1, h2⟩ := hb.mate.stored k (.int .i64 x)
  rw [intC_set M hk] at h1
  refine ⟨⟨hb.blk.grown h2 (fun e => own_ne hb.mate hb.blk (by decide) e), hb.progs.kept h2 ?_, by rw [List.length_set]; exact h1, hb.op.kept h2 ?_, hb.dis, hb.nums.grown h2 (fun e => set_ne_own hb.nums hb.mate e), hb.labs.grown h2 (fun e => set_ne_own hb.labs hb.mate e), hb.ne, hb.far⟩,
    h.blk.grown h2 (fun e => own_ne hb.mate h.blk (by decide) e), h.bel.trans (below_of_grown h2 h.size (fun q e => by injection e with e; subst e; exact (hb.mate.lt g rfl).1)), by have := h.size; simpa⟩
  · cases hv : vp.ownBlock with
    | none => exact .inl rfl
    | some q => exact .inr (fun e => own_ne_own hb.progs hb.mate (by decide) q hv e.symm)
  · cases hv : vo.ownBlock with
    | none => exact .inl rfl
    | some q => exact .inr (fun e => hb.dis q e.symm hv)
theorem AddSt.endSet (h : AddSt w base S N b p P e M O Nk Lk vp vm vo bn bl W) (hP : P ≠ []) {g c : Nat} (hv : vp = .slice (some ⟨g, 0, none⟩) P.length c) (i : Nat) :
    AddSt w base S N b p P i M O Nk Lk vp vm vo bn bl (W.setCell ⟨g, (P.length - 1) * 3 + 2, none⟩ (.int .i64 i)) := by
  have hb := h.bld.endSet hP hv i
  have hp := h.bld.progs
  subst hv
  have gr : W.grownBy (W.setCell ⟨g, (P.length - 1) * 3 + 2, none⟩ (.int .i64 i)) (some g) := grown_setCell (p := ⟨g, (P.length - 1) * 3 + 2, none⟩) (grown_refl _ _) (.inl rfl) _
  exact ⟨hb, h.blk.grown gr (fun e => own_ne hp h.blk (by decide) e), h.bel.trans (below_of_grown gr h.size (fun q e => by injection e with e; subst e; exact (hp.lt g rfl).1)), by have := h.size; simpa⟩
theorem AddSt.newLabs (h : AddSt w base S N b p P e M O Nk Lk vp vm vo bn bl W) :
    AddSt w base S N b p P e M O Nk [] vp vm vo bn W.heap.size ((W.alloc (.map #[] 0)).setCell ⟨S, 4, none⟩ (.map (some W.heap.size))) :=
  ⟨h.bld.newLabs h.size, (h.blk.alloc _).far (p := ⟨S, 4, none⟩) h.two _, (h.bel.alloc h.size _).setCell h.bld.far.1 _, by have := h.size; simp; omega⟩
theorem BldAt.progAt (h : BldAt base S P e M O Nk Lk vp vm vo bn bl W) {k : Nat} (hk : k < P.length) : ∃ g c, vp = .slice (some ⟨g, 0, none⟩) P.length c ∧ base ≤ g ∧ g < W.heap.size ∧ (∀ j, j < 3 → W.cell? ⟨g, k * 3 + j, none⟩ = (progC P e k)[j]?) ∧ ∀ j, W.frozen? ⟨g, j, none⟩ = false := by
  obtain ⟨aw, cw, e', hrow, hcap⟩ := RowAt.of_own h.progs (fun _ _ => rfl)
  obtain ⟨g, rfl, hg, ht⟩ := hrow.some (by omega)
  exact ⟨g, cw, e', hg, ht.lt, fun j hj => ht.cell hk hj, fun j => ht.frozen j⟩
theorem numsOf_snoc {P : List (Int × Nat)} (h : P ≠ []) (n : Int) (i : Nat) : numsOf (P ++ [(n, i)]) = numsOf P ++ [n] := by
  cases P with
  | nil => exact absurd rfl h
  | cons x l => simp [numsOf]
theorem dupN_nums {bs : List BlkL} {i : Nat} {s : StL} (h : StOK bs i s) {b : BlkL} (hn : 1 ≤ b.n) : dupN b s = decide (b.n ∈ numsOf s.progs) := by
  obtain ⟨r, e, _, _⟩ := h.progs
  unfold dupN numsOf
  rw [e]
  congr 1
  simp
  omega
theorem nums_wf {bs : List BlkL} {i : Nat} {s : StL} (h : StOK bs i s) : ∀ y ∈ numsOf s.progs, (Lit.int .i64 y).wf = true := by
  obtain ⟨r, e, _, hr⟩ := h.progs
  intro y hy
  unfold numsOf at hy
  rw [e] at hy
  simp only [List.tail_cons, List.mem_map] at hy
  obtain ⟨p, hp, rfl⟩ := hy
  have := hr p hp
  exact wf_small (by omega) (by omega)
theorem valid_prog {b : BlkL} (h : validB b = true) (hk : b.kind = 6) : 1 ≤ b.n ∧ b.n ≤ 99999 := by
  unfold validB at h
  simp only [hk] at h
  split at h
  · cases h
  · simp at h
    exact h.2.2.2
end
/-- A region's rest, met in a world of which only F is told. -/
theorem told_L {P : Program} {ops : Array Oper} {Q : Exit → Act → World → Prop} {S : World → Prop} {LL : List Nat} {fuel : Nat} {listed : Array Bool} {a : Act} {w : World} (F : World → Prop) (hF : F w) (h : ∀ W, F W → wpAnyL P .any ops Q S LL fuel listed a W) : wpAnyL P .any ops Q S LL fuel listed a w := h w hF
end Go.Proofs.Yteiogjgmedikhaa

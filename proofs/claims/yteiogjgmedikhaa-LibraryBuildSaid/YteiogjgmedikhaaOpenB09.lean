/-
  Blocks that come in as arguments: trees of any depth. No condition.
-/
import Derived.Test.YteiogjgmedikhaaArgs
import Derived.Test.YteiogjgmedikhaaChecked
import Derived.Test.YteiogjgmedikhaaMemB09
namespace Go.Proofs.Yteiogjgmedikhaa
open Go Go.RowKit Go.ChangeShapes Go.WideShapes Go.Deep
set_option linter.unusedVariables false
set_option linter.unusedSimpArgs false
section
variable {H : Type} {enc : TypeId × Value → H} {w : World} {base : Nat}
/-- A row of elements of C cells. -/
theorem row_of {P : Program} {t e : TypeId} {C m : Nat} {c : Value} {y : DataW H × List MemPlace} (hs : P.underlying t = some (.slice e)) (hC : P.cellsOf e = C) (h0 : 0 < C) (hy : DataW.trod enc P w base (fun _ => true) true m t [c] = some y) :
    ∃ a len cap n, c = .slice a len cap ∧ len ≤ cap ∧ cap ≤ maxLen ∧ (a = none → len = 0) ∧ n < m ∧ ∀ i, i < len → ∃ cs : List Value, cs.length = C ∧ (∃ b o, a = some ⟨b, o, none⟩ ∧ b < w.heap.size ∧ ∀ j, j < C → w.cell? ⟨b, o + i * C + j, none⟩ = cs[j]?) ∧ ∃ y', DataW.trod enc P w base (fun _ => true) true n e cs = some y' := by
  rcases DataW.trod_slice hs hy with ⟨e1, _⟩ | ⟨a, len, cap, elems, rest, n, rfl, e1, _, _, hl, hm, hlen, hel, _, _⟩
  · injection e1 with e1
    exact ⟨none, 0, 0, 0, e1, Nat.le_refl _, by decide, fun _ => rfl, by
      cases m with
      | zero => simp [DataW.trod] at hy
      | succ m => omega, fun i hi => by omega⟩
  · injection e1 with e1
    refine ⟨some a, len, cap, n, e1, hl, hm, (fun h => by cases h), by omega, fun i hi => ?_⟩
    have h1 := hel i hi
    rw [List.getElem?_eq_getElem (by omega), Option.bind_eq_some_iff] at h1
    obtain ⟨cs, h1, h2⟩ := h1
    obtain ⟨_, h3, h4⟩ := World.cells?_some h1
    rw [hC] at h3 h4
    refine ⟨cs, h3, ?_, _, h2⟩
    obtain ⟨b, o, s⟩ := a
    have hc0 := h4 0 h0
    rw [List.getElem?_eq_getElem (by omega)] at hc0
    have hsp : s = none := by
      have g1 := hel 0 (by omega)
      rw [List.getElem?_eq_getElem (by omega), Option.bind_eq_some_iff] at g1
      obtain ⟨cs2, g1, _⟩ := g1
      obtain ⟨_, g3, g4⟩ := World.cells?_some g1
      rw [hC] at g3 g4
      have g5 := g4 0 h0
      rw [List.getElem?_eq_getElem (by omega)] at g5
      simpa [Addr.add] using World.cell?_spot g5
    subst hsp
    refine ⟨b, o, rfl, (by have h := block_lt_of_cell hc0; rw [Addr.add_mid, Addr.add_mid] at h; exact h), fun j hj => ?_⟩
    have := h4 j hj
    rw [Addr.add_mid, Addr.add_mid] at this
    exact this
/-- A field. -/
theorem field_of {P : Program} {t : TypeId} {fs : Array Field} {m : Nat} {cs : List Value} {y : DataW H × List MemPlace} (hs : P.underlying t = some (.struct fs)) (hy : DataW.trod enc P w base (fun _ => true) true m t cs = some y) :
    cs.length = P.cellsOf t ∧ ∃ n, n < m ∧ ∀ (i : Nat) (f : Field), fs[i]? = some f → ∃ y', DataW.trod enc P w base (fun _ => true) true n f.type (List.take (P.cellsOf f.type) (List.drop f.offset cs)) = some y' := by
  obtain ⟨xs, n, rfl, _, hl, hxl, hf⟩ := DataW.trod_struct hs hy
  refine ⟨hl, n, by omega, fun i f hi => ?_⟩
  have := hf i f hi
  have hlt := (Array.getElem?_eq_some_iff.1 hi).1
  rw [List.getElem?_eq_getElem (by omega)] at this
  exact ⟨_, this⟩
theorem c1 : Try.prog.cellsOf 3 = 1 := by kernel_rfl
theorem cb : Try.prog.cellsOf 4 = 1 := by kernel_rfl
theorem cE : Try.prog.cellsOf 35 = 3 := by kernel_rfl
theorem cW : Try.prog.cellsOf 48 = 4 := by kernel_rfl
theorem cB : Try.prog.cellsOf 37 = 11 := by kernel_rfl
theorem csE : Try.prog.cellsOf 33 = 1 := by kernel_rfl
theorem csW : Try.prog.cellsOf 32 = 1 := by kernel_rfl
theorem expr_of : ∀ (m : Nat) (cs : List Value) (y : DataW H × List MemPlace), DataW.trod enc Try.prog w base (fun _ => true) true m 35 cs = some y → ∃ (x : Ex) (a : Option Addr) (cap : Nat), cs = [.int .i64 x.op, .int .i64 x.n, .slice a x.kids.length cap] ∧ ExAt w x a cap := by
  intro m
  induction m using Nat.strongRecOn with
  | ind m ih =>
    intro cs y hy
    obtain ⟨hl, n, hn, hf⟩ := field_of Try.underlying35 hy
    rw [cE] at hl
    match cs, hl with
    | [v0, v1, v2], _ =>
      obtain ⟨y0, h0⟩ := hf 0 _ rfl
      obtain ⟨y1, h1⟩ := hf 1 _ rfl
      obtain ⟨y2, h2⟩ := hf 2 _ rfl
      simp only [List.getElem_toArray, List.getElem_cons_zero, List.getElem_cons_succ] at h0 h1 h2
      rw [c1] at h0 h1
      rw [csE] at h2
      simp only [List.drop_zero, List.take_succ_cons, List.take_zero, List.drop_succ_cons] at h0 h1 h2
      obtain ⟨op, e0, _⟩ := DataW.trod_int Try.underlying3 h0
      obtain ⟨nn, e1, _⟩ := DataW.trod_int Try.underlying3 h1
      obtain ⟨a, len, cap, n', e2, hc, hm, ha, hlt, hel⟩ := row_of Try.underlying33 cE (by decide) h2
      have hq : ∀ i, ∃ q : Ex × Option Addr × Nat, i < len → (∃ b o, a = some ⟨b, o, none⟩ ∧ b < w.heap.size ∧ ∀ j, j < 3 → w.cell? ⟨b, o + i * 3 + j, none⟩ = ([.int .i64 q.1.op, .int .i64 q.1.n, .slice q.2.1 q.1.kids.length q.2.2] : List Value)[j]?) ∧ ExAt w q.1 q.2.1 q.2.2 := by
        intro i
        by_cases hi : i < len
        · obtain ⟨cs', _, hcell, y', hy'⟩ := hel i hi
          obtain ⟨x, a', cap', e, hx⟩ := ih n' (by omega) cs' y' hy'
          subst e
          exact ⟨(x, a', cap'), fun _ => ⟨hcell, hx⟩⟩
        · exact ⟨(.mk 0 0 [], none, 0), fun h => absurd h hi⟩
      obtain ⟨f, hf'⟩ := Classical.axiomOfChoice hq
      refine ⟨.mk op nn ((List.range len).map fun i => (f i).1), a, cap, ?_, .mk (fun i => ((f i).2.1, (f i).2.2)) ?_ (by simpa using hc) hm fun i x hx => ?_⟩
      · simp only [List.drop_zero, List.take_succ_cons, List.take_zero, List.cons.injEq, and_true, List.drop_succ_cons] at e0 e1
        rw [e0, e1, e2]
        simp [Ex.op, Ex.n, Ex.kids]
      · by_cases hz : len = 0
        · left; subst hz; rfl
        · obtain ⟨⟨b, o, e, hb, _⟩, _⟩ := hf' 0 (by omega)
          refine .inr ⟨b, o, e, hb, fun i x hx j v hv => ?_⟩
          simp only [List.getElem?_map, Option.map_eq_some_iff] at hx
          obtain ⟨i', hi', rfl⟩ := hx
          obtain ⟨hil, hi'⟩ := List.getElem?_eq_some_iff.1 hi'
          simp at hil hi'
          subst hi'
          obtain ⟨⟨b', o', e', _, hcell⟩, _⟩ := hf' i hil
          rw [e] at e'
          injection e' with e'
          injection e' with e1 e2
          subst e1 e2
          have hj : j < 3 := by have := (List.getElem?_eq_some_iff.1 hv).1; simpa [exC] using this
          rw [hcell j hj]
          exact hv
      · simp only [List.getElem?_map, Option.map_eq_some_iff] at hx
        obtain ⟨i', hi', rfl⟩ := hx
        obtain ⟨hil, hi'⟩ := List.getElem?_eq_some_iff.1 hi'
        simp at hil hi'
        subst hi'
        exact (hf' i hil).2
theorem word_of {m : Nat} {cs : List Value} {y : DataW H × List MemPlace} (hy : DataW.trod enc Try.prog w base (fun _ => true) true m 48 cs = some y) : ∃ (x : WordL) (k : Kid), cs = wordC x k ∧ ExAt w x.x k.a k.cap := by
  obtain ⟨hl, n, hn, hf⟩ := field_of Try.underlying48 hy
  rw [cW] at hl
  match cs, hl with
  | [v0, v1, v2, v3], _ =>
    obtain ⟨y0, h0⟩ := hf 0 _ rfl
    obtain ⟨y1, h1⟩ := hf 1 _ rfl
    simp only [List.getElem_toArray, List.getElem_cons_zero, List.getElem_cons_succ] at h0 h1
    rw [c1] at h0
    rw [cE] at h1
    simp only [List.drop_zero, List.take_succ_cons, List.take_zero, List.drop_succ_cons] at h0 h1
    obtain ⟨l, e0, _⟩ := DataW.trod_int Try.underlying3 h0
    obtain ⟨x, a, cap, e1, hx⟩ := expr_of n _ y1 h1
    refine ⟨⟨l, x⟩, ⟨a, cap⟩, ?_, hx⟩
    simp only [List.drop_zero, List.take_succ_cons, List.take_zero, List.cons.injEq, and_true, List.drop_succ_cons] at e0 e1
    unfold wordC
    rw [e0, e1.1, e1.2.1, e1.2.2]
theorem words_of {m : Nat} {c : Value} {y : DataW H × List MemPlace} (hy : DataW.trod enc Try.prog w base (fun _ => true) true m 32 [c] = some y) : ∃ (ws : List WordL) (a : Option Addr) (cap : Nat) (k : Nat → Kid), c = .slice a ws.length cap ∧ WordsAt w ws a cap k := by
  obtain ⟨a, len, cap, n', e2, hc, hm, ha, hlt, hel⟩ := row_of Try.underlying32 cW (by decide) hy
  have hq : ∀ i, ∃ q : WordL × Kid, i < len → (∃ b o, a = some ⟨b, o, none⟩ ∧ b < w.heap.size ∧ ∀ j, j < 4 → w.cell? ⟨b, o + i * 4 + j, none⟩ = (wordC q.1 q.2)[j]?) ∧ ExAt w q.1.x q.2.a q.2.cap := by
    intro i
    by_cases hi : i < len
    · obtain ⟨cs', _, hcell, y', hy'⟩ := hel i hi
      obtain ⟨x, k, e, hx⟩ := word_of hy'
      subst e
      exact ⟨(x, k), fun _ => ⟨hcell, hx⟩⟩
    · exact ⟨(⟨0, .mk 0 0 []⟩, ⟨none, 0⟩), fun h => absurd h hi⟩
  obtain ⟨f, hf'⟩ := Classical.axiomOfChoice hq
  have hat : ∀ (i : Nat) (x : WordL), ((List.range len).map fun i => (f i).1)[i]? = some x → i < len ∧ x = (f i).1 := fun i x hx => by
    simp only [List.getElem?_map, Option.map_eq_some_iff] at hx
    obtain ⟨i', hi', rfl⟩ := hx
    obtain ⟨hil, hi'⟩ := List.getElem?_eq_some_iff.1 hi'
    simp at hil hi'
    subst hi'
    exact ⟨hil, rfl⟩
  refine ⟨(List.range len).map fun i => (f i).1, a, cap, fun i => (f i).2, by simpa using e2, fun i x hx => ?_, fun i x hx => ?_, by simpa using ⟨hc, hm⟩⟩
  · obtain ⟨hil, rfl⟩ := hat i x hx
    obtain ⟨⟨b, o, e, hb, hcell⟩, _⟩ := hf' i hil
    refine ⟨b, o, e, hb, fun j v hv => ?_⟩
    have hj : j < 4 := by have := (List.getElem?_eq_some_iff.1 hv).1; simpa [wordC] using this
    rw [hcell j hj]
    exact hv
  · obtain ⟨hil, rfl⟩ := hat i x hx
    exact (hf' i hil).2
theorem blk_of {m : Nat} {cs : List Value} {y : DataW H × List MemPlace} (hy : DataW.trod enc Try.prog w base (fun _ => true) true m 37 cs = some y) : ∃ (b : BlkL) (pl : Place), cs = blkC b pl ∧ BlkAt w b pl := by
  obtain ⟨hl, n, hn, hf⟩ := field_of Try.underlying37 hy
  rw [cB] at hl
  match cs, hl with
  | [v0, v1, v2, v3, v4, v5, v6, v7, v8, v9, v10], _ =>
    obtain ⟨y0, h0⟩ := hf 0 _ rfl
    obtain ⟨y1, h1⟩ := hf 1 _ rfl
    obtain ⟨y2, h2⟩ := hf 2 _ rfl
    obtain ⟨y3, h3⟩ := hf 3 _ rfl
    obtain ⟨y4, h4⟩ := hf 4 _ rfl
    obtain ⟨y5, h5⟩ := hf 5 _ rfl
    obtain ⟨y6, h6⟩ := hf 6 _ rfl
    simp only [List.getElem_toArray, List.getElem_cons_zero, List.getElem_cons_succ] at h0 h1 h2 h3 h4 h5 h6
    rw [c1] at h0 h1 h6
    rw [cb] at h2
    rw [csW] at h3
    rw [cE] at h4 h5
    simp only [List.drop_zero, List.take_succ_cons, List.take_zero, List.drop_succ_cons] at h0 h1 h2 h3 h4 h5 h6
    obtain ⟨kd, e0, _⟩ := DataW.trod_int Try.underlying3 h0
    obtain ⟨lab, e1, _⟩ := DataW.trod_int Try.underlying3 h1
    obtain ⟨sk, e2, _⟩ := DataW.trod_bool Try.underlying4 h2
    obtain ⟨ws, aw, cw, kk, e3, hw⟩ := words_of h3
    obtain ⟨lf, al, cl, e4, hl⟩ := expr_of n _ y4 h4
    obtain ⟨x, ax, cx, e5, hx⟩ := expr_of n _ y5 h5
    obtain ⟨nn, e6, _⟩ := DataW.trod_int Try.underlying3 h6
    refine ⟨⟨kd, lab, sk, ws, lf, x, nn⟩, ⟨aw, cw, kk, ⟨al, cl⟩, ⟨ax, cx⟩⟩, ?_, hw, hl, hx⟩
    simp only [List.cons.injEq, and_true] at e0 e1 e2 e4 e5 e6
    unfold blkC
    rw [e0, e1, e2, e3, e4.1, e4.2.1, e4.2.2, e5.1, e5.2.1, e5.2.2, e6]
/-- A slice of blocks. -/
theorem open_blocks {r : Reach} {b0 : Nat} {v : Value} {d : DataW H} {p : List MemPlace} (hv : Value.okWide Try.prog w r b0 22 v) (h : DataW.Trod enc Try.prog w base (fun _ => true) true 22 v d p) :
    ∃ (bs : List BlkL) (a : Option Addr) (cap : Nat) (pl : Nat → Place), v = .slice a bs.length cap ∧ BlksAt w bs a cap pl := by
  obtain ⟨a, len, cap, rfl⟩ := okWide_slice Try.underlying22 hv
  obtain ⟨fuel, hf⟩ := h
  obtain ⟨a, len, cap, n', e2, hc, hm, ha, hlt, hel⟩ := row_of Try.underlying22 cB (by decide) (by simpa [Value.cells] using hf)
  have hq : ∀ i, ∃ q : BlkL × Place, i < len → (∃ b o, a = some ⟨b, o, none⟩ ∧ b < w.heap.size ∧ ∀ j, j < 11 → w.cell? ⟨b, o + i * 11 + j, none⟩ = (blkC q.1 q.2)[j]?) ∧ BlkAt w q.1 q.2 := by
    intro i
    by_cases hi : i < len
    · obtain ⟨cs', _, hcell, y', hy'⟩ := hel i hi
      obtain ⟨x, k, e, hx⟩ := blk_of hy'
      subst e
      exact ⟨(x, k), fun _ => ⟨hcell, hx⟩⟩
    · exact ⟨(⟨0, 0, false, [], .mk 0 0 [], .mk 0 0 [], 0⟩, ⟨none, 0, fun _ => ⟨none, 0⟩, ⟨none, 0⟩, ⟨none, 0⟩⟩), fun h => absurd h hi⟩
  obtain ⟨f, hf'⟩ := Classical.axiomOfChoice hq
  have hat : ∀ i, i < len → ((List.range len).map fun i => (f i).1)[i]? = some (f i).1 := fun i hi => by simp [hi]
  refine ⟨(List.range len).map fun i => (f i).1, a, cap, fun i => (f i).2, by simpa using e2, fun i hi => ?_, fun i b hb => ?_, fun e => by simpa using ha e, by simpa using ⟨hc, hm⟩⟩
  · have hil : i < len := by simpa using hi
    rw [blksC_at (hat i hil)]
    exact ⟨rfl, (hf' i hil).1⟩
  · have hil : i < len := by simpa using (List.getElem?_eq_some_iff.1 hb).1
    rw [hat i hil] at hb
    injection hb with hb
    subst hb
    exact (hf' i hil).2
end
end Go.Proofs.Yteiogjgmedikhaa

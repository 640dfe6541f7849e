/-
  Slices of one or two expressions, of a word, of a block are made; one element is appended to what is the call's own. No condition.
-/
import Derived.Test.YteiogjgmedikhaaClone09
import Derived.Test.YteiogjgmedikhaaHeldE
import Derived.Deep.AppendLies
namespace Go.Proofs.Yteiogjgmedikhaa
open Go Go.RowKit
set_option linter.unusedVariables false

/-! ### append of one element -/
section
variable {P : Program} {w : World}
theorem flat_snoc {C n : Nat} {f : Nat → List Value} {news : List Value} : flat f n ++ news = flat (fun i => if i = n then news else f i) (n + 1) := by
  rw [flat_succ, if_pos rfl]
  congr 1
  exact flat_congr fun i hi => by rw [if_neg (by omega)]
/-- What append leaves. -/
structure Pushed (w : World) (base : Nat) (e : TypeId) (size : Nat) (v : Value) (n : Nat) (f : Nat → List Value) (news : List Value) (g cap : Nat) (w' : World) : Prop where
  own : w'.ownsRow base e size (.slice (some ⟨g, 0, none⟩) (n + 1) cap) (n + 1) (flat (fun i => if i = n then news else f i) (n + 1))
  grown : w.grownBy w' v.ownBlock
  at' : v.ownBlock = some g ∨ g = w.heap.size
  lt : g < w'.heap.size
theorem wp_push {o : Oper} {a : Act} {K : Act → World → Prop} {Q : Exit → Act → World → Prop} (s x : Operand) (t : TypeId)
    (ho : o.op = .call { callee := .builtin .append, args := #[s, x], argTypes := #[t, t] })
    (base : Nat) (e : TypeId) (z : Value) (size bytes : Nat) (ht : P.underlying t = some (.slice e)) (hi : (P.info? e).map (fun i => (i.zero, i.size, i.bytes)) = some (some z, size, bytes)) (hzs : z.cells.size = size) (hsz : 0 < size) (hb1 : bytes ≤ 1000)
    (v : Value) (n : Nat) (f : Nat → List Value) (hs : a.eval s = v) (hown : w.ownsRow base e size v n (flat f n))
    (N : Nat) (news : List Value) (hx : a.eval x = .slice (some ⟨N, 0, none⟩) 1 1) (hb : Blk w N e news.toArray) (hl : news.length = size) (h1 : ∀ u ∈ news, u.oneCell' = true)
    (hn : n ≤ 1000000) (hbase : base ≤ w.heap.size)
    (h : ∀ g cap w', Pushed w base e size v n f news g cap w' → K (a.put o.dst (.slice (some ⟨g, 0, none⟩) (n + 1) cap)) w') : o.wp P a w K Q := by
  obtain ⟨i0, hi0, hz0, hz1, hz2⟩ := info_parts hi
  refine wp_append_lies w s x t ho base e i0 z size bytes ht hi0 hz0 hz1 hz2 hzs hsz v n (flat f n) hs hown ⟨N, 0, none⟩ 1 1 news hx (by omega) (fun j u hu => ?_) h1 (by decide) (by unfold maxLen; omega) ?_ hbase _ rfl fun g cap w' g1 g2 g3 g4 => h g cap w' ⟨?_, g2, g3, g4⟩
  · rw [Addr.add_mid, Nat.zero_add, hb.cell]; simpa using hu
  · have : (n + 1) * bytes ≤ 1000001 * 1000 := Nat.mul_le_mul (by omega) hb1
    omega
  · rw [← flat_snoc (C := size)]; exact g1
theorem wpList_push {ops : Array Oper} {rest : List Oper} {o : Oper} {a : Act} {Q : Exit → Act → World → Prop} (hgd : o.guard = none) (s x : Operand) (t : TypeId)
    (ho : o.op = .call { callee := .builtin .append, args := #[s, x], argTypes := #[t, t] })
    (base : Nat) (e : TypeId) (z : Value) (size bytes : Nat) (ht : P.underlying t = some (.slice e)) (hi : (P.info? e).map (fun i => (i.zero, i.size, i.bytes)) = some (some z, size, bytes)) (hzs : z.cells.size = size) (hsz : 0 < size) (hb1 : bytes ≤ 1000)
    (v : Value) (n : Nat) (f : Nat → List Value) (hs : a.eval s = v) (hown : w.ownsRow base e size v n (flat f n))
    (N : Nat) (news : List Value) (hx : a.eval x = .slice (some ⟨N, 0, none⟩) 1 1) (hb : Blk w N e news.toArray) (hl : news.length = size) (h1 : ∀ u ∈ news, u.oneCell' = true)
    (hn : n ≤ 1000000) (hbase : base ≤ w.heap.size)
    (h : ∀ g cap w', Pushed w base e size v n f news g cap w' → wpList P ops Q rest (a.put o.dst (.slice (some ⟨g, 0, none⟩) (n + 1) cap)) w') : wpList P ops Q (o :: rest) a w :=
  wpList_plain hgd fun _ hK => wp_push s x t ho base e z size bytes ht hi hzs hsz hb1 v n f hs hown N news hx hb hl h1 hn hbase fun g cap w' hp => hK _ _ (h g cap w' hp)
end

/-! ### Slices of literals -/
theorem expr1_run (v0 v1 v2 : Value) (W : World) : (Instr.buildSlice 33 1 #[(0, .agg #[v0, v1, v2])]).run Try.prog W = .ok (.slice (some ⟨W.heap.size, 0, none⟩) 1 1) (W.alloc (.cells #[v0, v1, v2] 35)) := by
  obtain ⟨i0, hi, hz0, hz1, hz2⟩ := info_parts infoExpr
  exact run_buildSlice W _ 35 1 _ #[v0, v1, v2] i0 _ Try.underlying33 hi hz0 (by rw [hz1]; decide) (by rw [hz1]; decide) (by rw [hz1]; with_unfolding_all kernel_rfl)
theorem wp_expr1 {o : Oper} {a : Act} {w : World} {K : Act → World → Prop} {Q : Exit → Act → World → Prop} (x : Operand) (v0 v1 v2 : Value) (ho : o.op = .buildSlice 33 1 #[(0, x)]) (hx : a.eval x = .agg #[v0, v1, v2])
    (h : K (a.put o.dst (.slice (some ⟨w.heap.size, 0, none⟩) 1 1)) (w.alloc (.cells #[v0, v1, v2] 35))) : o.wp Try.prog a w K Q := by
  unfold Oper.wp execOp
  simp only [ho, List.map_toArray, List.map_cons, List.map_nil, hx, Sem.run_bind, expr1_run, Result.andThen_ok, Sem.run_pure]
  exact h
theorem wpList_expr1 {ops : Array Oper} {rest : List Oper} {o : Oper} {a : Act} {w : World} {Q : Exit → Act → World → Prop} (hgd : o.guard = none) (x : Operand) (v0 v1 v2 : Value) (ho : o.op = .buildSlice 33 1 #[(0, x)]) (hx : a.eval x = .agg #[v0, v1, v2])
    (h : wpList Try.prog ops Q rest (a.put o.dst (.slice (some ⟨w.heap.size, 0, none⟩) 1 1)) (w.alloc (.cells #[v0, v1, v2] 35))) : wpList Try.prog ops Q (o :: rest) a w :=
  wpList_plain hgd fun _ hK => wp_expr1 x v0 v1 v2 ho hx (hK _ _ h)
theorem word1_run (v0 v1 v2 v3 : Value) (W : World) : (Instr.buildSlice 32 1 #[(0, .agg #[v0, v1, v2, v3])]).run Try.prog W = .ok (.slice (some ⟨W.heap.size, 0, none⟩) 1 1) (W.alloc (.cells #[v0, v1, v2, v3] 48)) := by
  obtain ⟨i0, hi, hz0, hz1, hz2⟩ := info_parts infoWord
  exact run_buildSlice W _ 48 1 _ #[v0, v1, v2, v3] i0 _ Try.underlying32 hi hz0 (by rw [hz1]; decide) (by rw [hz1]; decide) (by rw [hz1]; with_unfolding_all kernel_rfl)
theorem wp_word1 {o : Oper} {a : Act} {w : World} {K : Act → World → Prop} {Q : Exit → Act → World → Prop} (x : Operand) (v0 v1 v2 v3 : Value) (ho : o.op = .buildSlice 32 1 #[(0, x)]) (hx : a.eval x = .agg #[v0, v1, v2, v3])
    (h : K (a.put o.dst (.slice (some ⟨w.heap.size, 0, none⟩) 1 1)) (w.alloc (.cells #[v0, v1, v2, v3] 48))) : o.wp Try.prog a w K Q := by
  unfold Oper.wp execOp
  simp only [ho, List.map_toArray, List.map_cons, List.map_nil, hx, Sem.run_bind, word1_run, Result.andThen_ok, Sem.run_pure]
  exact h
theorem wpList_word1 {ops : Array Oper} {rest : List Oper} {o : Oper} {a : Act} {w : World} {Q : Exit → Act → World → Prop} (hgd : o.guard = none) (x : Operand) (v0 v1 v2 v3 : Value) (ho : o.op = .buildSlice 32 1 #[(0, x)]) (hx : a.eval x = .agg #[v0, v1, v2, v3])
    (h : wpList Try.prog ops Q rest (a.put o.dst (.slice (some ⟨w.heap.size, 0, none⟩) 1 1)) (w.alloc (.cells #[v0, v1, v2, v3] 48))) : wpList Try.prog ops Q (o :: rest) a w :=
  wpList_plain hgd fun _ hK => wp_word1 x v0 v1 v2 v3 ho hx (hK _ _ h)
theorem block1_run (v0 v1 v2 v3 v4 v5 v6 v7 v8 v9 v10 : Value) (W : World) : (Instr.buildSlice 22 1 #[(0, .agg #[v0, v1, v2, v3, v4, v5, v6, v7, v8, v9, v10])]).run Try.prog W = .ok (.slice (some ⟨W.heap.size, 0, none⟩) 1 1) (W.alloc (.cells #[v0, v1, v2, v3, v4, v5, v6, v7, v8, v9, v10] 37)) := by
  obtain ⟨i0, hi, hz0, hz1, hz2⟩ := info_parts infoBlock
  exact run_buildSlice W _ 37 1 _ #[v0, v1, v2, v3, v4, v5, v6, v7, v8, v9, v10] i0 _ Try.underlying22 hi hz0 (by rw [hz1]; decide) (by rw [hz1]; decide) (by rw [hz1]; with_unfolding_all kernel_rfl)
theorem wp_block1 {o : Oper} {a : Act} {w : World} {K : Act → World → Prop} {Q : Exit → Act → World → Prop} (x : Operand) (v0 v1 v2 v3 v4 v5 v6 v7 v8 v9 v10 : Value) (ho : o.op = .buildSlice 22 1 #[(0, x)]) (hx : a.eval x = .agg #[v0, v1, v2, v3, v4, v5, v6, v7, v8, v9, v10])
    (h : K (a.put o.dst (.slice (some ⟨w.heap.size, 0, none⟩) 1 1)) (w.alloc (.cells #[v0, v1, v2, v3, v4, v5, v6, v7, v8, v9, v10] 37))) : o.wp Try.prog a w K Q := by
  unfold Oper.wp execOp
  simp only [ho, List.map_toArray, List.map_cons, List.map_nil, hx, Sem.run_bind, block1_run, Result.andThen_ok, Sem.run_pure]
  exact h
theorem wpList_block1 {ops : Array Oper} {rest : List Oper} {o : Oper} {a : Act} {w : World} {Q : Exit → Act → World → Prop} (hgd : o.guard = none) (x : Operand) (v0 v1 v2 v3 v4 v5 v6 v7 v8 v9 v10 : Value) (ho : o.op = .buildSlice 22 1 #[(0, x)]) (hx : a.eval x = .agg #[v0, v1, v2, v3, v4, v5, v6, v7, v8, v9, v10])
    (h : wpList Try.prog ops Q rest (a.put o.dst (.slice (some ⟨w.heap.size, 0, none⟩) 1 1)) (w.alloc (.cells #[v0, v1, v2, v3, v4, v5, v6, v7, v8, v9, v10] 37))) : wpList Try.prog ops Q (o :: rest) a w :=
  wpList_plain hgd fun _ hK => wp_block1 x v0 v1 v2 v3 v4 v5 v6 v7 v8 v9 v10 ho hx (hK _ _ h)
end Go.Proofs.Yteiogjgmedikhaa

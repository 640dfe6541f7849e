/-
  General lemmas that no program is named in: a struct is built, loaded or stored whole, in a plain walk and in a fenced one. No condition.
-/
import Derived.Test.YtefdjdipbnnoaaaGreatDoorBase
import Derived.OwnWalkIn
import Derived.Laws.Tables
import Derived.Great.BuildSlice
import Derived.Deep.AppendLies
import Derived.Laws.StructEq
namespace Go.Proofs.YtefdjdipbnnoaaaGreatDoor
open Go Go.RowKit
set_option linter.unusedVariables false

section
variable {P : Program} {ops : Array Oper} {rest : List Oper} {o : Oper} {a : Act} {w : World} {Q : Exit → Act → World → Prop}
/-- A struct or an array is built; the cells are handed in. -/
theorem wpList_built (hg : o.guard = none) (t : TypeId) (parts : Array (Nat × Operand)) (ho : o.op = .build t parts) (cells : Array Value)
    (hc : P.built t (parts.map fun (i, x) => (i, a.eval x)).toList = some cells) (h : wpList P ops Q rest (a.put o.dst (.agg cells)) w) : wpList P ops Q (o :: rest) a w :=
  wpList_plain hg fun _ hK => by
    unfold Oper.wp execOp
    simp only [ho, Sem.run_bind, run_build w t _ cells hc, Result.andThen_ok]
    exact hK _ _ h

variable {F : Fence} {n : Nat}
/-- What runs to a value, in a fenced walk. -/
theorem wpIn_run {K : Act → World → Prop} {v : Value} {w' : World} (hc : ∀ c, o.op ≠ .call c) (hd : ∀ c, o.op ≠ .defer c) (hrun : (execOp a.eval o).run P w = .ok (.value v) w') (h : K (a.put o.dst v) w') : o.wpIn F n P a w K Q := by
  unfold Oper.wpIn
  refine ⟨?_, ?_⟩
  · intro f hf
    unfold Oper.about at hf
    cases hop : o.op <;> rw [hop] at hf <;> first | (simp at hf; done) | (exfalso; exact hc _ hop)
  · rw [Oper.semAt_plain F _ _ hd, hrun]
    exact h
theorem wpIn_skip {K : Act → World → Prop} {w' : World} (hc : ∀ c, o.op ≠ .call c) (hd : ∀ c, o.op ≠ .defer c) (hrun : (execOp a.eval o).run P w = .ok .skip w') (h : K (a.put o.dst undef) w') : o.wpIn F n P a w K Q := by
  unfold Oper.wpIn
  refine ⟨?_, ?_⟩
  · intro f hf
    unfold Oper.about at hf
    cases hop : o.op <;> rw [hop] at hf <;> first | (simp at hf; done) | (exfalso; exact hc _ hop)
  · rw [Oper.semAt_plain F _ _ hd, hrun]
    exact h
theorem wpListIn_built (hg : o.guard = none) (t : TypeId) (parts : Array (Nat × Operand)) (ho : o.op = .build t parts) (cells : Array Value)
    (hc : P.built t (parts.map fun (i, x) => (i, a.eval x)).toList = some cells) (h : wpListIn F n P ops Q rest (a.put o.dst (.agg cells)) w) : wpListIn F n P ops Q (o :: rest) a w :=
  wpListIn_plain hg fun _ hK => wpIn_run (v := .agg cells) (w' := w) (by rw [ho]; intro c hc'; cases hc') (by rw [ho]; intro c hc'; cases hc') (by
    unfold execOp
    simp only [ho, Sem.run_bind, run_build w t _ cells hc, Result.andThen_ok]
    rfl) (hK _ _ h)
theorem wpListIn_load_row (hgd : o.guard = none) (ty : TypeId) (x : Operand) (ho : o.op = .load ty x)
    (g : Nat) (hx : a.eval x = .pointer (some ⟨g, 0, none⟩)) (t : TypeId) (cs : Array Value) (fr : Nat × Nat) (d : TypeDesc) (hg : w.heap[g]? = some (.cells cs t fr))
    (hu : P.underlying ty = some d) (hd : (match d with | .struct _ | .array _ _ => true | _ => false) = true) (hi : (P.info? ty).map (·.size) = some cs.size)
    (h : wpListIn F n P ops Q rest (a.put o.dst (.agg cs)) w) : wpListIn F n P ops Q (o :: rest) a w :=
  wpListIn_plain hgd fun _ hK => wpIn_run (v := .agg cs) (w' := w) (by rw [ho]; intro c hc'; cases hc') (by rw [ho]; intro c hc'; cases hc') (by
    unfold execOp
    simp only [ho, hx, Instr.loadAt, Instr.sureAddr, Sem.run_bind, Sem.run_pure, Result.andThen_ok, run_loadVar_row w g t ty cs fr d hg hu hd hi]) (hK _ _ h)
theorem wpListIn_store_row (hgd : o.guard = none) (ty : TypeId) (x y : Operand) (ho : o.op = .store ty x y)
    (g : Nat) (cells : Array Value) (hx : a.eval x = .pointer (some ⟨g, 0, none⟩)) (hy : a.eval y = .agg cells)
    (t : TypeId) (old : Array Value) (hg : w.heap[g]? = some (.cells old t (0, 0))) (hi : (P.info? ty).map (·.size) = some cells.size)
    (hold : old.size = cells.size) (h1 : cells.all (·.oneCell') = true)
    (h : wpListIn F n P ops Q rest (a.put o.dst undef) (w.setRow g cells)) : wpListIn F n P ops Q (o :: rest) a w :=
  wpListIn_plain hgd fun _ hK => wpIn_skip (w' := w.setRow g cells) (by rw [ho]; intro c hc'; cases hc') (by rw [ho]; intro c hc'; cases hc') (by
    unfold execOp
    simp only [ho, hx, hy, Instr.storeAt, Instr.sureAddr, Sem.run_bind, Sem.run_pure, Result.andThen_ok, run_storeVar_row w g t ty old cells hg hi hold h1]) (hK _ _ h)
theorem wpListIn_buildSlice (hg : o.guard = none) (t e : TypeId) (len : Nat) (parts : Array (Nat × Operand)) (ho : o.op = .buildSlice t len parts)
    (cells : Array Value) (ie : TypeInfo) (z : Value)
    (hu : P.underlying t = some (.slice e)) (hie : P.info? e = some ie) (hz : ie.zero = some z) (hsmall : ¬ len * ie.size > 2 ^ 24) (hpos : ¬ len * ie.size = 0)
    (hf : Instr.fill (fun i => some (i * ie.size, ie.size)) ((Array.range (len * ie.size)).map (z.cells[· % z.cells.size]!)) (parts.map fun (i, x) => (i, a.eval x)).toList = some cells)
    (h : wpListIn F n P ops Q rest (a.put o.dst (.slice (some ⟨w.heap.size, 0, none⟩) len len)) (w.alloc (.cells cells e))) : wpListIn F n P ops Q (o :: rest) a w :=
  wpListIn_plain hg fun _ hK => wpIn_run (v := .slice (some ⟨w.heap.size, 0, none⟩) len len) (w' := w.alloc (.cells cells e)) (by rw [ho]; intro c hc'; cases hc') (by rw [ho]; intro c hc'; cases hc') (by
    unfold execOp
    simp only [ho, Sem.run_bind, run_buildSlice w t e len _ cells ie z hu hie hz hsmall hpos hf, Result.andThen_ok]
    rfl) (hK _ _ h)
end

/-! ### The same, the operation written out: what does not fit fails at once -/
section
variable {P : Program} {ops : Array Oper} {rest : List Oper} {a : Act} {w : World} {Q : Exit → Act → World → Prop} {F : Fence} {n : Nat} {dst : Option Tmp} {ty0 : TypeId} {pos : String} {after : Array Edge}
theorem gi_built (t : TypeId) (parts : Array (Nat × Operand)) (cells : Array Value)
    (hc : P.built t (parts.map fun (i, x) => (i, a.eval x)).toList = some cells) (h : wpListIn F n P ops Q rest (a.put dst (.agg cells)) w) : wpListIn F n P ops Q (⟨dst, .build t parts, ty0, pos, after, none⟩ :: rest) a w :=
  wpListIn_built rfl t parts rfl cells hc h
theorem gi_load_row (ty : TypeId) (x : Operand) (g : Nat) (t : TypeId) (cs : Array Value) (d : TypeDesc) (hx : a.eval x = .pointer (some ⟨g, 0, none⟩)) (hg : w.heap[g]? = some (.cells cs t (0, 0)))
    (hu : P.underlying ty = some d) (hd : (match d with | .struct _ | .array _ _ => true | _ => false) = true) (hi : (P.info? ty).map (·.size) = some cs.size)
    (h : wpListIn F n P ops Q rest (a.put dst (.agg cs)) w) : wpListIn F n P ops Q (⟨dst, .load ty x, ty0, pos, after, none⟩ :: rest) a w :=
  wpListIn_load_row rfl ty x rfl g hx t cs (0, 0) d hg hu hd hi h
theorem gi_store_row (ty : TypeId) (x y : Operand) (g : Nat) (cells : Array Value) (t : TypeId) (old : Array Value) (hx : a.eval x = .pointer (some ⟨g, 0, none⟩)) (hy : a.eval y = .agg cells)
    (hg : w.heap[g]? = some (.cells old t (0, 0))) (hi : (P.info? ty).map (·.size) = some cells.size) (hold : old.size = cells.size) (h1 : cells.all (·.oneCell') = true)
    (h : wpListIn F n P ops Q rest (a.put dst undef) (w.setRow g cells)) : wpListIn F n P ops Q (⟨dst, .store ty x y, ty0, pos, after, none⟩ :: rest) a w :=
  wpListIn_store_row rfl ty x y rfl g cells hx hy t old hg hi hold h1 h
theorem gi_buildSlice (t e : TypeId) (len : Nat) (parts : Array (Nat × Operand)) (cells : Array Value) (ie : TypeInfo) (z : Value)
    (hu : P.underlying t = some (.slice e)) (hie : P.info? e = some ie) (hz : ie.zero = some z) (hsmall : ¬ len * ie.size > 2 ^ 24) (hpos : ¬ len * ie.size = 0)
    (hf : Instr.fill (fun i => some (i * ie.size, ie.size)) ((Array.range (len * ie.size)).map (z.cells[· % z.cells.size]!)) (parts.map fun (i, x) => (i, a.eval x)).toList = some cells)
    (h : wpListIn F n P ops Q rest (a.put dst (.slice (some ⟨w.heap.size, 0, none⟩) len len)) (w.alloc (.cells cells e))) : wpListIn F n P ops Q (⟨dst, .buildSlice t len parts, ty0, pos, after, none⟩ :: rest) a w :=
  wpListIn_buildSlice rfl t e len parts rfl cells ie z hu hie hz hsmall hpos hf h
theorem go_built (t : TypeId) (parts : Array (Nat × Operand)) (cells : Array Value)
    (hc : P.built t (parts.map fun (i, x) => (i, a.eval x)).toList = some cells) (h : wpList P ops Q rest (a.put dst (.agg cells)) w) : wpList P ops Q (⟨dst, .build t parts, ty0, pos, after, none⟩ :: rest) a w :=
  wpList_built rfl t parts rfl cells hc h
theorem go_load_row (ty : TypeId) (x : Operand) (g : Nat) (t : TypeId) (cs : Array Value) (d : TypeDesc) (hx : a.eval x = .pointer (some ⟨g, 0, none⟩)) (hg : w.heap[g]? = some (.cells cs t (0, 0)))
    (hu : P.underlying ty = some d) (hd : (match d with | .struct _ | .array _ _ => true | _ => false) = true) (hi : (P.info? ty).map (·.size) = some cs.size)
    (h : wpList P ops Q rest (a.put dst (.agg cs)) w) : wpList P ops Q (⟨dst, .load ty x, ty0, pos, after, none⟩ :: rest) a w :=
  wpList_load_row rfl ty x rfl g hx t cs (0, 0) d hg hu hd hi h
theorem go_store_row (ty : TypeId) (x y : Operand) (g : Nat) (cells : Array Value) (t : TypeId) (old : Array Value) (hx : a.eval x = .pointer (some ⟨g, 0, none⟩)) (hy : a.eval y = .agg cells)
    (hg : w.heap[g]? = some (.cells old t (0, 0))) (hi : (P.info? ty).map (·.size) = some cells.size) (hold : old.size = cells.size) (h1 : cells.all (·.oneCell') = true)
    (h : wpList P ops Q rest (a.put dst undef) (w.setRow g cells)) : wpList P ops Q (⟨dst, .store ty x y, ty0, pos, after, none⟩ :: rest) a w :=
  wpList_store_row rfl ty x y rfl g cells hx hy t old hg hi hold h1 h
theorem go_buildSlice (t e : TypeId) (len : Nat) (parts : Array (Nat × Operand)) (cells : Array Value) (ie : TypeInfo) (z : Value)
    (hu : P.underlying t = some (.slice e)) (hie : P.info? e = some ie) (hz : ie.zero = some z) (hsmall : ¬ len * ie.size > 2 ^ 24) (hpos : ¬ len * ie.size = 0)
    (hf : Instr.fill (fun i => some (i * ie.size, ie.size)) ((Array.range (len * ie.size)).map (z.cells[· % z.cells.size]!)) (parts.map fun (i, x) => (i, a.eval x)).toList = some cells)
    (h : wpList P ops Q rest (a.put dst (.slice (some ⟨w.heap.size, 0, none⟩) len len)) (w.alloc (.cells cells e))) : wpList P ops Q (⟨dst, .buildSlice t len parts, ty0, pos, after, none⟩ :: rest) a w :=
  wpList_buildSlice rfl t e len parts rfl cells ie z hu hie hz hsmall hpos hf h
end

theorem append_guard {P : Program} {ops : Array Oper} {a : Act} {w : World} {K : Act → World → Prop} {Q : Exit → Act → World → Prop} {E : Prop} {dst : Option Tmp} {ty0 : TypeId} {pos : String} {after : Array Edge} {args : Array Operand} {ts : Array TypeId}
    (h : if Region.wanted ⟨dst, .call { callee := .builtin .append, args := args, argTypes := ts }, ty0, pos, after, none⟩ (yielded ops a.tmps) = true then Oper.wp P ⟨dst, .call { callee := .builtin .append, args := args, argTypes := ts }, ty0, pos, after, none⟩ a w K Q else E) :
    if Region.wanted ⟨dst, .call { callee := .builtin .append, args := args, argTypes := ts }, ty0, pos, after, none⟩ (yielded ops a.tmps) = true then Oper.wp P ⟨dst, .call { callee := .builtin .append, args := args, argTypes := ts }, ty0, pos, after, none⟩ a w K Q else E := h
/-! ### At a guarded operation -/
section
variable {P : Program} {a : Act} {w : World} {K : Act → World → Prop} {Q : Exit → Act → World → Prop} {dst : Option Tmp} {ty0 : TypeId} {pos : String} {after : Array Edge} {gd : Option (Nat × Bool)}
theorem wo_built (t : TypeId) (parts : Array (Nat × Operand)) (cells : Array Value)
    (hc : P.built t (parts.map fun (i, x) => (i, a.eval x)).toList = some cells) (h : K (a.put dst (.agg cells)) w) : Oper.wp P ⟨dst, .build t parts, ty0, pos, after, gd⟩ a w K Q := by
  unfold Oper.wp execOp
  simp only [Sem.run_bind, run_build w t _ cells hc, Result.andThen_ok]
  exact h
theorem wo_load_mid (ty : TypeId) (x : Operand) (g o : Nat) (cs : List Value) (d : TypeDesc) (hx : a.eval x = .pointer (some ⟨g, o, none⟩)) (hc : w.rangeAt g o cs)
    (hu : P.underlying ty = some d) (hd : d.isRow = true) (hi : (P.info? ty).map (·.size) = some cs.length) (h : K (a.put dst (.agg cs.toArray)) w) : Oper.wp P ⟨dst, .load ty x, ty0, pos, after, gd⟩ a w K Q := by
  unfold Oper.wp execOp
  simp only [hx, Sem.run_bind, run_loadAt_mid w g o ty cs d hc hu hd hi, Result.andThen_ok, Sem.run_pure]
  exact h
theorem wo_binop (op : BinOp) (t t' : TypeId) (x y : Operand) (v : Value) (hr : (do eqGuard op t x y (a.eval x) (a.eval y); binOp op t (a.eval x) (a.eval y) : Sem Value).run P w = .ok v w) (h : K (a.put dst v) w) : Oper.wp P ⟨dst, .binOp op t x y t', ty0, pos, after, gd⟩ a w K Q := by
  unfold Oper.wp execOp
  simp only [Sem.run_bind] at hr
  simp only [Sem.run_bind, hr, Result.andThen_ok, Sem.run_pure]
  exact h
end
/-- append, at a step of a region that draws its order; the operation written out. -/
theorem step_append_lit {P : Program} {ops : Array Oper} {a : Act} {w : World} {K : Act → World → Prop} {Q : Exit → Act → World → Prop} {E : Prop} {dst : Option Tmp} {ty0 : TypeId} {pos : String} {after : Array Edge} (s x : Operand) (t : TypeId)
    (base : Nat) (e : TypeId) (i : TypeInfo) (z : Value) (size bytes : Nat) (ht : P.underlying t = some (.slice e)) (hi : P.info? e = some i) (hz : i.zero = some z)
    (hsize : i.size = size) (hby : i.bytes = bytes) (hzs : z.cells.size = size) (hsz : 0 < size)
    (v : Value) (n : Nat) (xs : List Value) (hs : a.eval s = v) (hown : w.ownsRow base e size v n xs)
    (ad : Addr) (m c : Nat) (news : List Value) (hx : a.eval x = .slice (some ad) m c) (hl : news.length = m * size) (hnews : ∀ j u, news[j]? = some u → w.cell? (ad.add j) = some u) (h1 : ∀ u ∈ news, u.oneCell' = true)
    (hm : 0 < m) (h63 : n + m ≤ maxLen) (hbytes : (n + m) * bytes ≤ 140737488355328) (hbase : base ≤ w.heap.size) (H : Nat) (hH : w.heap.size = H)
    (h : ∀ g cap w', w'.ownsRow base e size (.slice (some ⟨g, 0, none⟩) (n + m) cap) (n + m) (xs ++ news) → w.grownBy w' v.ownBlock → (v.ownBlock = some g ∨ g = H) → g < w'.heap.size → K (a.put dst (.slice (some ⟨g, 0, none⟩) (n + m) cap)) w') :
    if Region.wanted ⟨dst, .call { callee := .builtin .append, args := #[s, x], argTypes := #[t, t] }, ty0, pos, after, none⟩ (yielded ops a.tmps) = true then Oper.wp P ⟨dst, .call { callee := .builtin .append, args := #[s, x], argTypes := #[t, t] }, ty0, pos, after, none⟩ a w K Q else E :=
  step_append_lies w rfl s x t rfl base e i z size bytes ht hi hz hsize hby hzs hsz v n xs hs hown ad m c news hx hl hnews h1 hm h63 hbytes hbase H hH h

/-! ### What has only grown -/
theorem grown_of_below {w w' : World} (h : Below w.heap.size w w') : w.grownBy w' none := ⟨h.os, h.tape, h.output, h.size, fun i hi _ => h.block i hi⟩
theorem below_of_grown0 {w w' : World} (h : w.grownBy w' none) : Below w.heap.size w w' := ⟨h.os, h.tape, h.output, h.size, fun i hi => h.block i hi (by simp)⟩
end Go.Proofs.YtefdjdipbnnoaaaGreatDoor

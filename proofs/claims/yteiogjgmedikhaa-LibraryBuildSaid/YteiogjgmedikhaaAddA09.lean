/-
  library's add: the words of its walk, and what it leaves. No condition.
-/
import Derived.Test.YteiogjgmedikhaaAddP09
import Derived.Test.YteiogjgmedikhaaRCopyB09
namespace Go.Proofs.Yteiogjgmedikhaa
open Go Go.RowKit
set_option linter.unusedVariables false

section
variable {P : Program} {a : Act} {w : World} {o : Oper} {K : Act → World → Prop} {Q : Exit → Act → World → Prop}
theorem exec_load (ty : TypeId) (x : Operand) (ho : o.op = .load ty x) (p : Addr) (v : Value) (hx : a.eval x = .pointer (some p))
    (hl : (Instr.loadAt ty (.pointer (some p))).run P w = .ok v w) : (execOp a.eval o).run P w = .ok (.value v) w := by
  unfold execOp
  simp only [ho, hx, Sem.run_bind, hl, Result.andThen_ok, Sem.run_pure]
theorem exec_lookup (t : TypeId) (m x : Operand) (ho : o.op = .lookup t m x false) (vm vx v : Value) (hm : a.eval m = vm) (hx : a.eval x = vx)
    (hl : (Instr.lookup t vm vx false).run P w = .ok v w) : (execOp a.eval o).run P w = .ok (.value v) w := by
  unfold execOp
  simp only [ho, hm, hx, Sem.run_bind, hl, Result.andThen_ok, Sem.run_pure]
theorem wp_mapUpdate {w' : World} (t : TypeId) (m x y : Operand) (ho : o.op = .mapUpdate t m x y) (vm vx vy : Value) (hm : a.eval m = vm) (hx : a.eval x = vx) (hy : a.eval y = vy)
    (hl : (Instr.mapUpdate t vm vx vy).run P w = .ok () w') (h : K (a.put o.dst undef) w') : o.wp P a w K Q := by
  unfold Oper.wp execOp
  simp only [ho, hm, hx, hy, Sem.run_bind, hl, Result.andThen_ok, Sem.run_pure]
  exact h
theorem wp_store_new (ty : TypeId) (x y : Operand) (ho : o.op = .store ty x y) (c c' : Array Value) (hx : a.eval x = .pointer (some ⟨w.heap.size, 0, none⟩)) (hy : a.eval y = .agg c')
    (hi : (P.info? ty).map (·.size) = some c'.size) (hs : c.size = c'.size) (h1 : c'.all (·.oneCell') = true) (h : K (a.put o.dst undef) (w.alloc (.cells c' ty))) : o.wp P a (w.alloc (.cells c ty)) K Q := by
  unfold Oper.wp execOp
  simp only [ho, hx, hy, Sem.run_bind, run_storeAt_new w ty c c' hi hs h1, Result.andThen_ok, Sem.run_pure]
  exact h
end
theorem infoInt : (Try.prog.info? 3).map (fun i => (i.zero, i.size, i.bytes)) = some (some (.int .i64 0), 1, 8) := by kernel_rfl
theorem infoProg : (Try.prog.info? 55).map (fun i => (i.zero, i.size, i.bytes)) = some (some (.agg #[.int .i64 0, .int .i64 0, .int .i64 0]), 3, 24) := by kernel_rfl
theorem prog1_run (v0 v1 v2 : Value) (W : World) : (Instr.buildSlice 40 1 #[(0, .agg #[v0, v1, v2])]).run Try.prog W = .ok (.slice (some ⟨W.heap.size, 0, none⟩) 1 1) (W.alloc (.cells #[v0, v1, v2] 55)) := by
  obtain ⟨i0, hi, hz0, hz1, hz2⟩ := info_parts infoProg
  exact run_buildSlice W _ 55 1 _ #[v0, v1, v2] i0 _ Try.underlying40 hi hz0 (by rw [hz1]; decide) (by rw [hz1]; decide) (by rw [hz1]; with_unfolding_all kernel_rfl)
theorem wp_prog1 {o : Oper} {a : Act} {w : World} {K : Act → World → Prop} {Q : Exit → Act → World → Prop} (x : Operand) (v0 v1 v2 : Value) (ho : o.op = .buildSlice 40 1 #[(0, x)]) (hx : a.eval x = .agg #[v0, v1, v2])
    (h : K (a.put o.dst (.slice (some ⟨w.heap.size, 0, none⟩) 1 1)) (w.alloc (.cells #[v0, v1, v2] 55))) : o.wp Try.prog a w K Q := by
  unfold Oper.wp execOp
  simp only [ho, List.map_toArray, List.map_cons, List.map_nil, hx, Sem.run_bind, prog1_run, Result.andThen_ok, Sem.run_pure]
  exact h
theorem wpList_prog1 {ops : Array Oper} {rest : List Oper} {o : Oper} {a : Act} {w : World} {Q : Exit → Act → World → Prop} (hgd : o.guard = none) (x : Operand) (v0 v1 v2 : Value) (ho : o.op = .buildSlice 40 1 #[(0, x)]) (hx : a.eval x = .agg #[v0, v1, v2])
    (h : wpList Try.prog ops Q rest (a.put o.dst (.slice (some ⟨w.heap.size, 0, none⟩) 1 1)) (w.alloc (.cells #[v0, v1, v2] 55))) : wpList Try.prog ops Q (o :: rest) a w :=
  wpList_plain hgd fun _ hK => wp_prog1 x v0 v1 v2 ho hx (hK _ _ h)

/-- The state of add: the builder, the copy of the block, what has not turned. -/
structure AddSt (w : World) (base S N : Nat) (b : BlkL) (p : Place) (P : List (Int × Nat)) (e : Nat) (M : List Int) (O : List Nat) (Nk Lk : List Int) (vp vm vo : Value) (bn bl : Nat) (W : World) : Prop where
  bld : BldAt base S P e M O Nk Lk vp vm vo bn bl W
  blk : Blk W N 37 (blkC b p).toArray
  bel : Below base w W
  size : base ≤ W.heap.size
/-- A builder somewhere. -/
def BldSome (base S : Nat) (P : List (Int × Nat)) (M : List Int) (O : List Nat) (Nk Lk : List Int) (W : World) : Prop := ∃ vp vm vo bn bl, BldAt base S P 0 M O Nk Lk vp vm vo bn bl W
/-- The numbers of the programs. -/
def numsOf (P : List (Int × Nat)) : List Int := P.tail.map (·.1)
/-- What add leaves. -/
def AddPost (bs : List BlkL) (b : BlkL) (i : Nat) (s : StL) (base S : Nat) (w : World) (e : Ending) (w' : World) : Prop :=
  match stepB bs b i s with
  | .err a c => e = .returned (.tuple #[.int .i64 (a : Nat), .int .i64 c]) ∧ Below base w w'
  | .ok s' => e = .returned (.tuple #[.int .i64 0, .int .i64 0]) ∧ Below base w w' ∧ BldSome base S s'.progs s'.mate s'.op (numsOf s'.progs) (labelsOf bs (lastFirst s'.progs) (i + 1)) w'
theorem AddPost.err {bs : List BlkL} {b : BlkL} {i : Nat} {s : StL} {base S : Nat} {w w' : World} {a : Nat} {c : Int} (h : stepB bs b i s = .err a c) (hb : Below base w w') {x : Ending} (hx : x = .returned (.tuple #[.int .i64 (a : Nat), .int .i64 c])) : AddPost bs b i s base S w x w' := by
  subst hx; unfold AddPost; rw [h]; exact ⟨rfl, hb⟩
theorem AddPost.ok {bs : List BlkL} {b : BlkL} {i : Nat} {s s' : StL} {base S : Nat} {w w' : World} (h : stepB bs b i s = .ok s') (hb : Below base w w') (hs : BldSome base S s'.progs s'.mate s'.op (numsOf s'.progs) (labelsOf bs (lastFirst s'.progs) (i + 1)) w')
    {x : Ending} (hx : x = .returned (.tuple #[.int .i64 0, .int .i64 0])) : AddPost bs b i s base S w x w' := by
  subst hx; unfold AddPost; rw [h]; exact ⟨rfl, hb, hs⟩
section
variable {w : World} {base S N : Nat} {b : BlkL} {p : Place} {P : List (Int × Nat)} {e : Nat} {M : List Int} {O : List Nat} {Nk Lk : List Int} {vp vm vo : Value} {bn bl : Nat} {W : World}
theorem AddSt.drew (h : AddSt w base S N b p P e M O Nk Lk vp vm vo bn bl W) : AddSt w base S N b p P e M O Nk Lk vp vm vo bn bl W.drew :=
  ⟨h.bld.under (Below.refl _ _).drew, h.blk.drew, h.bel.drew, h.size⟩
theorem AddSt.label (h : AddSt w base S N b p P e M O Nk Lk vp vm vo bn bl W) : W.cell? ⟨N, 1, none⟩ = some (.int .i64 b.label) := h.blk.cell' 1 rfl
theorem AddSt.kind (h : AddSt w base S N b p P e M O Nk Lk vp vm vo bn bl W) : W.cell? ⟨N, 0, none⟩ = some (.int .i64 b.kind) := h.blk.cell' 0 rfl
theorem AddSt.n (h : AddSt w base S N b p P e M O Nk Lk vp vm vo bn bl W) : W.cell? ⟨N, 10, none⟩ = some (.int .i64 b.n) := h.blk.cell' 10 rfl
end
end Go.Proofs.Yteiogjgmedikhaa

/-
  cncstage.Expr. No condition.
-/
import Derived.Test.YteiogjgmedikhaaTapes09
import Derived.Test.YteiogjgmedikhaaLit09
namespace Go.Proofs.Yteiogjgmedikhaa
open Go Go.RowKit
set_option linter.unusedVariables false

theorem Blk.new' (w : World) (t : TypeId) (cs : Array Value) {n : Nat} (h : w.heap.size = n) : Blk (w.alloc (.cells cs t)) n t cs := h ▸ Blk.new w t cs
section
variable {p q : Nat → Prop} {W W' : World} {x y : Ex} {a a' : Option Addr} {cap cap' : Nat}
theorem ExP.set (h : ExP p W x a cap) {r : Addr} (hr : ¬ p r.block) (v : Value) : ExP p (W.setCell r v) x a cap := h.keep fun b hb hl => Below.heap_setCell W r v b (fun e => hr (e ▸ hb))
theorem ExP.alloc (h : ExP p W x a cap) (o : Obj) : ExP p (W.alloc o) x a cap := h.keep fun b _ hl => Below.heap_alloc W o b hl
theorem ExP.leaf (p : Nat → Prop) (W : World) (op n : Int) : ExP p W (.mk op n []) none 0 := .mk (fun _ => (none, 0)) (.inl rfl) (by simp) (by omega) (fun i x h => by simp at h)
theorem ExP.one (h : ExP p W x a cap) {kb : Nat} (hb : Blk W kb 35 #[.int .i64 x.op, .int .i64 x.n, .slice a x.kids.length cap]) (hp : p kb) (op n : Int) : ExP p W (.mk op n [x]) (some ⟨kb, 0, none⟩) 1 :=
  .mk (fun _ => (a, cap)) (.inr ⟨kb, 0, _, rfl, hp, hb, fun i hi j hj => by
    obtain rfl : i = 0 := by simp at hi; omega
    match j, hj with
    | 0, _ => rfl
    | 1, _ => rfl
    | 2, _ => rfl⟩) (by simp) (by omega) (fun i y hy => by
    match i, hy with
    | 0, hy => injection hy with hy; subst hy; exact h)
theorem ExP.two (h : ExP p W x a cap) (h' : ExP p W y a' cap') {kb : Nat} (hb : Blk W kb 35 #[.int .i64 x.op, .int .i64 x.n, .slice a x.kids.length cap, .int .i64 y.op, .int .i64 y.n, .slice a' y.kids.length cap']) (hp : p kb) (op n : Int) : ExP p W (.mk op n [x, y]) (some ⟨kb, 0, none⟩) 2 :=
  .mk (fun i => if i = 0 then (a, cap) else (a', cap')) (.inr ⟨kb, 0, _, rfl, hp, hb, fun i hi j hj => by
    match i, hi, j, hj with
    | 0, _, 0, _ => rfl
    | 0, _, 1, _ => rfl
    | 0, _, 2, _ => rfl
    | 1, _, 0, _ => rfl
    | 1, _, 1, _ => rfl
    | 1, _, 2, _ => rfl⟩) (by simp) (by omega) (fun i z hz => by
    match i, hz with
    | 0, hz => injection hz with hz; subst hz; exact h
    | 1, hz => injection hz with hz; subst hz; exact h')
theorem ExP.took {B g c k : Nat} {ac : Option Addr} {T : Tp} (h : ExP p W x a cap) (ht : Took B g ac c T W k W') (hg : ¬ p g) : ExP p W' x a cap := h.grownP ht.grown fun j e => by injection e with e; exact e ▸ hg
end
section
variable {B g c k k' : Nat} {ac : Option Addr} {T : Tp} {w wx w' : World}
theorem Took.start (h : Src w B g ac c T k) : Took B g ac c T w k w := ⟨h, grown_refl _ _⟩
theorem Took.alloc (h : Took B g ac c T w k wx) (o : Obj) : Took B g ac c T w k (wx.alloc o) := ⟨h.src.alloc o, grown_alloc h.grown o⟩
theorem Took.set (h : Took B g ac c T w k wx) {r : Addr} (hr : w.heap.size ≤ r.block) (hg : g < w.heap.size) (v : Value) : Took B g ac c T w k (wx.setCell r v) :=
  ⟨h.src.setCell (by have := h.src.old; omega) (by omega) v, grown_setCell h.grown (.inr hr) v⟩
theorem Took.trans (h : Took B g ac c T w k wx) (h' : Took B g ac c T wx k' w') : Took B g ac c T w k' w' := ⟨h'.src, grown_trans h.grown h'.grown⟩
theorem Took.blk {r : Nat} {t : TypeId} {cs : Array Value} (h : Took B g ac c T w k wx) (hb : Blk w r t cs) (hr : r ≠ g) : Blk wx r t cs := hb.grown h.grown (fun e => hr (by injection e))
theorem Took.size (h : Took B g ac c T w k wx) : w.heap.size ≤ wx.heap.size := h.grown.size
theorem Took.drew (h : Took B g ac c T w k wx) : Took B g ac c T w k wx.drew := ⟨h.src.drew, grown_drew h.grown⟩
theorem Took.drewN (h : Took B g ac c T w k wx) (n : Nat) : Took B g ac c T w k (wx.drewN n) := ⟨h.src.drewN n, grown_drewN h.grown n⟩
end
/-- What Expr returns. -/
def ExprPost (B g : Nat) (ac : Option Addr) (c : Nat) (T : Tp) (w : World) (x : Ex × Nat) (e : Ending) (w' : World) : Prop :=
  ∃ a cap, e = .returned (.agg #[.int .i64 x.1.op, .int .i64 x.1.n, .slice a x.1.kids.length cap]) ∧ ExP (fun b => w.heap.size ≤ b) w' x.1 a cap ∧ Took B g ac c T w x.2 w'
theorem ExprPost.mk {B g c : Nat} {ac : Option Addr} {T : Tp} {w w' : World} {x : Ex × Nat} {e : Ending} {a : Option Addr} {cap : Nat} (h : ExP (fun b => w.heap.size ≤ b) w' x.1 a cap) (ht : Took B g ac c T w x.2 w')
    (he : e = .returned (.agg #[.int .i64 x.1.op, .int .i64 x.1.n, .slice a x.1.kids.length cap])) : ExprPost B g ac c T w x e w' := ⟨a, cap, he, h, ht⟩
set_option maxRecDepth 100000 in
theorem expr_leaf (w : World) (B g : Nat) (ac : Option Addr) (c : Nat) (T : Tp) (k : Nat) (d : Nat) (hs : Src w B g ac c T k) (hd : d ≤ 6) (hl : d < 2 ∨ (nextF T k 10).1 < 3) :
    Calls Try.prog 46 #[.pointer (some ⟨g, 0, none⟩), .int .i64 d] w (ExprPost B g ac c T w (leafE (numberF T (nextF T k 10).2).1, (numberF T (nextF T k 10).2).2)) := by
  have gl := hs.lt
  have t0 := (Took.start hs).alloc (.cells #[.int .i64 0, .int .i64 0, .slice none 0 0] 35)
  have r0 := Blk.new w 35 #[.int .i64 0, .int .i64 0, .slice none 0 0]
  have KN := Lib.hid (next_any _ B g ac c T k 10 t0.src (by decide) (by decide))
  have h1 := nextF_lo T k (m := 10) (by decide)
  have h2 := nextF_hi T k (m := 10) (by decide)
  have T0 := Lib.hid t0
  have R0 := Lib.hid r0
  clear t0 r0
  generalize nextF T k 10 = s at *
  obtain ⟨v, k1⟩ := s
  dsimp only at *
  clear hs
  have KU := Lib.hid (fun W (hW : Src W B g ac c T k1) => number_any W B g ac c T k1 hW)
  go_enter Try.func46, Try.ntmps46
  go_wp2_with fail
  refine KN.out.mono ?_
  rintro e w1 ⟨rfl, t1⟩
  have r1 := t1.blk R0.out (by omega)
  have T1 := Lib.hid (T0.out.trans t1)
  have R1 := Lib.hid r1
  clear t1 r1 KN T0 R0
  have d1 : (decide ((d : Int) < 2) = true) ∨ (decide ((d : Int) < 2) = false ∧ decide (v < 3) = true) := by
    by_cases hd2 : d < 2
    · exact .inl (decide_eq_true (by omega))
    · exact .inr ⟨decide_eq_false (by omega), decide_eq_true (by omega)⟩
  clear hl h1 h2
  generalize numberF T k1 = q at *
  obtain ⟨n, k2⟩ := q
  rcases d1 with d1 | ⟨d1, d2⟩
  · skip
    go_wp2_with fail
    refine (KU.out _ T1.out.src).mono ?_
    rintro e w2 ⟨rfl, t2⟩
    have r2 := t2.blk R1.out (by omega)
    have T2 := Lib.hid (T1.out.trans t2)
    have z0 := r2.frozen 0
    have z1 := r2.frozen 1
    have z2 := r2.frozen 2
    have c0 := r2.cell 0
    have c1 := r2.cell 1
    have c2 := r2.cell 2
    clear t2 r2
    go_wp2_with fail
    refine bodyPost_ret (v := .agg #[.int .i64 0, .int .i64 n, .slice none 0 0]) (by simp [results, Try.results46, go_sem, c0, c1, c2]) rfl ?_
    exact .mk (ExP.leaf _ _ _ _) (((T2.out.set (Nat.le_refl _) gl _).set (Nat.le_refl _) gl _).set (Nat.le_refl _) gl _) rfl
  · skip
    go_wp2_with fail
    refine (KU.out _ T1.out.src).mono ?_
    rintro e w2 ⟨rfl, t2⟩
    have r2 := t2.blk R1.out (by omega)
    have T2 := Lib.hid (T1.out.trans t2)
    have z0 := r2.frozen 0
    have z1 := r2.frozen 1
    have z2 := r2.frozen 2
    have c0 := r2.cell 0
    have c1 := r2.cell 1
    have c2 := r2.cell 2
    clear t2 r2
    go_wp2_with fail
    refine bodyPost_ret (v := .agg #[.int .i64 0, .int .i64 n, .slice none 0 0]) (by simp [results, Try.results46, go_sem, c0, c1, c2]) rfl ?_
    exact .mk (ExP.leaf _ _ _ _) (((T2.out.set (Nat.le_refl _) gl _).set (Nat.le_refl _) gl _).set (Nat.le_refl _) gl _) rfl

set_option maxRecDepth 100000 in
set_option maxHeartbeats 1000000 in
theorem expr_var (w : World) (B g : Nat) (ac : Option Addr) (c : Nat) (T : Tp) (k : Nat) (d : Nat) (r : Ex × Nat) (hs : Src w B g ac c T k) (hd : d ≤ 6) (hd1 : 1 ≤ d) (hv : 3 ≤ (nextF T k 10).1 ∧ (nextF T k 10).1 < 5)
    (hF : r = if (nextF T (variableF T (nextF T k 10).2).2 8).1 = 0 then
        (.mk 1 0 [(exprF T d (nextF T (variableF T (nextF T k 10).2).2 8).2).1], (exprF T d (nextF T (variableF T (nextF T k 10).2).2 8).2).2)
      else (.mk 1 0 [leafE ((variableF T (nextF T k 10).2).1 * 1000000)], (nextF T (variableF T (nextF T k 10).2).2 8).2))
    (IH : ∀ W k, Src W B g ac c T k → Calls Try.prog 46 #[.pointer (some ⟨g, 0, none⟩), .int .i64 d] W (ExprPost B g ac c T W (exprF T d k))) :
    Calls Try.prog 46 #[.pointer (some ⟨g, 0, none⟩), .int .i64 ((d : Int) + 1)] w (ExprPost B g ac c T w r) := by
  have IH' := Lib.hid IH
  clear IH
  have gl := hs.lt
  have t0 := (Took.start hs).alloc (.cells #[.int .i64 0, .int .i64 0, .slice none 0 0] 35)
  have r0 := Blk.new w 35 #[.int .i64 0, .int .i64 0, .slice none 0 0]
  have KN := Lib.hid (next_any _ B g ac c T k 10 t0.src (by decide) (by decide))
  have h1 := nextF_lo T k (m := 10) (by decide)
  have h2 := nextF_hi T k (m := 10) (by decide)
  have T0 := Lib.hid t0
  have R0 := Lib.hid r0
  clear t0 r0
  generalize nextF T k 10 = s at *
  obtain ⟨v, k1⟩ := s
  dsimp only at *
  clear hs
  have KV := Lib.hid (fun W (hW : Src W B g ac c T k1) => variable_any W B g ac c T k1 hW)
  have hb := variableF_bd T k1
  generalize variableF T k1 = q at *
  obtain ⟨n, k2⟩ := q
  dsimp only at *
  have KM := Lib.hid (fun W (hW : Src W B g ac c T k2) => next_any W B g ac c T k2 8 hW (by decide) (by decide))
  generalize nextF T k2 8 = q at *
  obtain ⟨cv, k3⟩ := q
  dsimp only at *
  have HF := Lib.hid hF
  clear hF
  have d1 : decide ((d : Int) + 1 < 2) = false := decide_eq_false (by omega)
  have d2 : decide (v < 3) = false := decide_eq_false (by omega)
  have d3 : decide (v < 5) = true := decide_eq_true (by omega)
  clear hv h1 h2
  go_enter Try.func46, Try.ntmps46
  go_wp2_with fail
  refine KN.out.mono ?_
  rintro e w1 ⟨rfl, t1⟩
  have r1 := t1.blk R0.out (by omega)
  have T1 := Lib.hid (T0.out.trans t1)
  have R1 := Lib.hid r1
  clear t1 r1 KN T0 R0
  go_wp2_with fail
  refine (KV.out _ T1.out.src).mono ?_
  rintro e w2 ⟨rfl, t2⟩
  have r2 := t2.blk R1.out (by omega)
  have T2 := Lib.hid (T1.out.trans t2)
  have R := Lib.hid r2
  clear t2 r2 KV R1 T1
  go_wp2_with fail
  have sz := T2.out.size
  refine calls_told (fun W => Took B g ac c T w k2 W ∧ Blk W w.heap.size 35 #[.int .i64 0, .int .i64 0, .slice none 0 0] ∧ Blk W w2.heap.size 35 #[.int .i64 0, .int .i64 (n * 1000000), .slice none 0 0] ∧ w2.heap.size < W.heap.size)
    ⟨T2.out.alloc _, R.out.alloc _, Blk.new w2 _ _, by simp⟩ ?_
  rintro W ⟨t3, r3, x3, sz3⟩
  have hrg := R.out.lt
  have T3 := Lib.hid t3
  refine (KM.out W t3.src).mono ?_
  rintro e w4 ⟨rfl, t4⟩
  have R4 := Lib.hid (t4.blk r3 (by omega))
  have x4 := t4.blk x3 (by omega)
  have T4 := Lib.hid (T3.out.trans t4)
  have X4 := Lib.hid x4
  have sz4 := t4.size
  clear t3 r3 x3 t4 T3 T2 KM R x4
  by_cases hc : cv = 0
  · subst hc
    have hF := HF.out
    rw [if_pos rfl] at hF
    have HR := Lib.hid hF
    clear hF HF
    go_wp2_with fail
    have ih := IH'.out w4 k3 T4.out.src
    generalize exprF T d k3 = y at *
    obtain ⟨⟨yo, yn, yk⟩, k4⟩ := y
    refine ih.mono ?_
    rintro e w5 ⟨a5, c5, rfl, hE, t5⟩
    have R5 := Lib.hid (t5.blk R4.out (by omega))
    have X5 := Lib.hid (t5.blk X4.out (by omega))
    have T5 := Lib.hid (T4.out.trans t5)
    have HE := Lib.hid hE
    have sz5 := t5.size
    clear ih t5 hE R4 T4 X4
    dsimp only [Ex.op, Ex.n, Ex.kids] at *
    have x0 := X5.out.frozen 0
    have x1 := X5.out.frozen 1
    have x2 := X5.out.frozen 2
    have y0 := X5.out.cell 0
    have y1 := X5.out.cell 1
    have y2 := X5.out.cell 2
    go_upto_region 8 with fail
    clear x0 x1 x2 y0 y1 y2
    have n1 : w.heap.size ≠ w2.heap.size := by omega
    have n4 : w.heap.size < w4.heap.size := by omega
    have n2 : ¬ w4.heap.size ≤ w2.heap.size := by omega
    refine on_told (fun W => Took B g ac c T w k4 W ∧ Blk W w.heap.size 35 #[.int .i64 0, .int .i64 0, .slice none 0 0] ∧ Blk W w2.heap.size 35 #[.int .i64 yo, .int .i64 yn, .slice a5 yk.length c5] ∧ ExP (fun b => w4.heap.size ≤ b) W (.mk yo yn yk) a5 c5) ⟨((T5.out.set sz gl _).set sz gl _).set sz gl _, ((R5.out.far n1 _).far n1 _).far n1 _, ((X5.out.put 0 _).put 1 _).put 2 _, ((HE.out.set n2 _).set n2 _).set n2 _⟩ ?_
    rintro W6 ⟨t6, r6, x6, e6⟩
    have T6 := Lib.hid t6
    have R6 := Lib.hid r6
    have E6 := Lib.hid e6
    have y0 := x6.cell 0
    have y1 := x6.cell 1
    have y2 := x6.cell 2
    have r7 := r6
    have c0 := r7.cell 0
    have c1 := r7.cell 1
    have c2 := r7.cell 2
    have z0 := r7.frozen 0
    have z1 := r7.frozen 1
    have z2 := r7.frozen 2
    have sz6 := t6.size
    have rl := r6.lt
    clear t6 r6 x6 e6 r7
    go_wp2_with (with_reducible refine wpList_expr1 rfl (.tmp 37) (.int .i64 yo) (.int .i64 yn) (.slice a5 yk.length c5) rfl rfl ?_)
    refine bodyPost_ret (results_cell_row rfl _ _ w.heap.size 35 #[.int .i64 1, .int .i64 0, .slice (some ⟨W6.heap.size, 0, none⟩) 1 1] (0, 0) _ rfl (show Blk _ _ _ _ from ((((R6.out.put 0 _).put 1 _).put 2 _).alloc _)) Try.underlying35 rfl (by kernel_rfl)) rfl ?_
    rw [HR.out]
    have nn : ¬ w.heap.size < w.heap.size := Nat.lt_irrefl _
    have h6 := E6.out.imp (q := fun b => w.heap.size < b) fun b hb _ => Nat.lt_of_lt_of_le n4 hb
    have h7 := ((h6.set (r := ⟨w.heap.size, 0, none⟩) nn (.int .i64 1)).set (r := ⟨w.heap.size, 1, none⟩) nn (.int .i64 0)).set (r := ⟨w.heap.size, 2, none⟩) nn (.slice (some ⟨W6.heap.size, 0, none⟩) 1 1)
    have h8 := (h7.alloc (.cells #[.int .i64 yo, .int .i64 yn, .slice a5 yk.length c5] 35)).one (x := (.mk yo yn yk)) (Blk.new' _ _ _ (n := W6.heap.size) (by simp)) rl 1 0
    exact .mk (h8.imp fun b hb _ => Nat.le_of_lt hb) ((((T6.out.set (r := ⟨w.heap.size, 0, none⟩) (Nat.le_refl _) gl _).set (r := ⟨w.heap.size, 1, none⟩) (Nat.le_refl _) gl _).set (r := ⟨w.heap.size, 2, none⟩) (Nat.le_refl _) gl _).alloc _) rfl
  · have hF := HF.out
    rw [if_neg hc] at hF
    have HR := Lib.hid hF
    have hc' : (cv == 0) = false := by simpa using hc
    clear hF HF
    go_upto_region 8 with fail
    have n4 : w.heap.size < w4.heap.size := by omega
    refine on_told (fun W => Took B g ac c T w k3 W ∧ Blk W w.heap.size 35 #[.int .i64 0, .int .i64 0, .slice none 0 0] ∧ Blk W w2.heap.size 35 #[.int .i64 0, .int .i64 (n * 1000000), .slice none 0 0] ∧ ExP (fun b => w4.heap.size ≤ b) W (leafE (n * 1000000)) none 0) ⟨T4.out, R4.out, X4.out, ExP.leaf _ _ _ _⟩ ?_
    rintro W6 ⟨t6, r6, x6, e6⟩
    have T6 := Lib.hid t6
    have R6 := Lib.hid r6
    have E6 := Lib.hid e6
    have y0 := x6.cell 0
    have y1 := x6.cell 1
    have y2 := x6.cell 2
    have r7 := r6
    have c0 := r7.cell 0
    have c1 := r7.cell 1
    have c2 := r7.cell 2
    have z0 := r7.frozen 0
    have z1 := r7.frozen 1
    have z2 := r7.frozen 2
    have sz6 := t6.size
    have rl := r6.lt
    clear t6 r6 x6 e6 r7
    go_wp2_with (with_reducible refine wpList_expr1 rfl (.tmp 37) (.int .i64 0) (.int .i64 (n * 1000000)) (.slice none 0 0) rfl rfl ?_)
    refine bodyPost_ret (results_cell_row rfl _ _ w.heap.size 35 #[.int .i64 1, .int .i64 0, .slice (some ⟨W6.heap.size, 0, none⟩) 1 1] (0, 0) _ rfl (show Blk _ _ _ _ from ((((R6.out.put 0 _).put 1 _).put 2 _).alloc _)) Try.underlying35 rfl (by kernel_rfl)) rfl ?_
    rw [HR.out]
    have nn : ¬ w.heap.size < w.heap.size := Nat.lt_irrefl _
    have h6 := E6.out.imp (q := fun b => w.heap.size < b) fun b hb _ => Nat.lt_of_lt_of_le n4 hb
    have h7 := ((h6.set (r := ⟨w.heap.size, 0, none⟩) nn (.int .i64 1)).set (r := ⟨w.heap.size, 1, none⟩) nn (.int .i64 0)).set (r := ⟨w.heap.size, 2, none⟩) nn (.slice (some ⟨W6.heap.size, 0, none⟩) 1 1)
    have h8 := (h7.alloc (.cells #[.int .i64 0, .int .i64 (n * 1000000), .slice none 0 0] 35)).one (x := (leafE (n * 1000000))) (Blk.new' _ _ _ (n := W6.heap.size) (by simp)) rl 1 0
    exact .mk (h8.imp fun b hb _ => Nat.le_of_lt hb) ((((T6.out.set (r := ⟨w.heap.size, 0, none⟩) (Nat.le_refl _) gl _).set (r := ⟨w.heap.size, 1, none⟩) (Nat.le_refl _) gl _).set (r := ⟨w.heap.size, 2, none⟩) (Nat.le_refl _) gl _).alloc _) rfl

theorem infoIntS : (Try.prog.info? 3).map (fun i => (i.zero, i.size, i.bytes)) = some (some (.int .i64 0), 1, 8) := by kernel_rfl
theorem fn_at {j : Nat} (h : j < 9) : (#[.int .i64 2, .int .i64 8, .int .i64 9, .int .i64 10, .int .i64 12, .int .i64 13, .int .i64 14, .int .i64 15, .int .i64 16] : Array Value)[j]? = some (.int .i64 (fnOps.getD j 0)) := by
  match j, h with
  | 0, _ => rfl
  | 1, _ => rfl
  | 2, _ => rfl
  | 3, _ => rfl
  | 4, _ => rfl
  | 5, _ => rfl
  | 6, _ => rfl
  | 7, _ => rfl
  | 8, _ => rfl
set_option maxRecDepth 100000 in
set_option maxHeartbeats 1000000 in
theorem expr_one (w : World) (B g : Nat) (ac : Option Addr) (c : Nat) (T : Tp) (k : Nat) (d : Nat) (r : Ex × Nat) (hs : Src w B g ac c T k) (hd : d ≤ 6) (hd1 : 1 ≤ d) (hv : 5 ≤ (nextF T k 10).1 ∧ (nextF T k 10).1 < 6)
    (hF : r = (.mk (fnOps.getD (nextF T (nextF T k 10).2 9).1.toNat 0) 0 [(exprF T d (nextF T (nextF T k 10).2 9).2).1], (exprF T d (nextF T (nextF T k 10).2 9).2).2))
    (IH : ∀ W k, Src W B g ac c T k → Calls Try.prog 46 #[.pointer (some ⟨g, 0, none⟩), .int .i64 d] W (ExprPost B g ac c T W (exprF T d k))) :
    Calls Try.prog 46 #[.pointer (some ⟨g, 0, none⟩), .int .i64 ((d : Int) + 1)] w (ExprPost B g ac c T w r) := by
  have IH' := Lib.hid IH
  clear IH
  have gl := hs.lt
  have t0 := (Took.start hs).alloc (.cells #[.int .i64 0, .int .i64 0, .slice none 0 0] 35)
  have r0 := Blk.new w 35 #[.int .i64 0, .int .i64 0, .slice none 0 0]
  have KN := Lib.hid (next_any _ B g ac c T k 10 t0.src (by decide) (by decide))
  have h1 := nextF_lo T k (m := 10) (by decide)
  have h2 := nextF_hi T k (m := 10) (by decide)
  have T0 := Lib.hid t0
  have R0 := Lib.hid r0
  clear t0 r0
  generalize nextF T k 10 = s at *
  obtain ⟨v, k1⟩ := s
  dsimp only at *
  clear hs
  have KM := Lib.hid (fun W (hW : Src W B g ac c T k1) => next_any W B g ac c T k1 9 hW (by decide) (by decide))
  have o1 := nextF_lo T k1 (m := 9) (by decide)
  have o2 := nextF_hi T k1 (m := 9) (by decide)
  generalize nextF T k1 9 = q at *
  obtain ⟨ov, k2⟩ := q
  dsimp only at *
  obtain ⟨j, rfl⟩ : ∃ j : Nat, ov = j := ⟨ov.toNat, by omega⟩
  rw [Int.toNat_natCast] at hF
  have hj : j < 9 := by omega
  have FJ := fn_at hj
  generalize fnOps.getD j 0 = op at *
  have ih := fun W hW => IH'.out W k2 hW
  generalize exprF T d k2 = y at *
  obtain ⟨⟨yo, yn, yk⟩, k4⟩ := y
  dsimp only [Ex.op, Ex.n, Ex.kids] at *
  have IH2 := Lib.hid ih
  have HR := Lib.hid hF
  clear hF ih IH'
  have d1 : decide ((d : Int) + 1 < 2) = false := decide_eq_false (by omega)
  have d2 : decide (v < 3) = false := decide_eq_false (by omega)
  have d3 : decide (v < 5) = false := decide_eq_false (by omega)
  have d4 : decide (v < 6) = true := decide_eq_true (by omega)
  clear hv h1 h2
  go_enter Try.func46, Try.ntmps46
  go_wp2_with fail
  refine KN.out.mono ?_
  rintro e w1 ⟨rfl, t1⟩
  have r1 := t1.blk R0.out (by omega)
  have T1 := Lib.hid (T0.out.trans t1)
  have R1 := Lib.hid r1
  clear t1 r1 KN T0 R0
  obtain ⟨i0, hi, hz0, hz1, hz2⟩ := info_parts infoIntS
  go_upto_region 11 with ((with_reducible refine go_buildSlice 23 3 9 _ #[.int .i64 2, .int .i64 8, .int .i64 9, .int .i64 10, .int .i64 12, .int .i64 13, .int .i64 14, .int .i64 15, .int .i64 16] i0 _ Try.underlying23 hi hz0 (by rw [hz1]; decide) (by rw [hz1]; decide) (by rw [hz1]; with_unfolding_all kernel_rfl) ?_))
  have OB := Blk.new w1 3 #[.int .i64 2, .int .i64 8, .int .i64 9, .int .i64 10, .int .i64 12, .int .i64 13, .int .i64 14, .int .i64 15, .int .i64 16]
  have hS : (w1.alloc (.cells #[.int .i64 2, .int .i64 8, .int .i64 9, .int .i64 10, .int .i64 12, .int .i64 13, .int .i64 14, .int .i64 15, .int .i64 16] 3)).drew.cell? ⟨w1.heap.size, j, none⟩ = some (.int .i64 op) := OB.drew.cell' j FJ
  have T2 := Lib.hid ((T1.out.alloc (.cells #[.int .i64 2, .int .i64 8, .int .i64 9, .int .i64 10, .int .i64 12, .int .i64 13, .int .i64 14, .int .i64 15, .int .i64 16] 3)).drewN 1)
  have R2 := Lib.hid ((R1.out.alloc (.cells #[.int .i64 2, .int .i64 8, .int .i64 9, .int .i64 10, .int .i64 12, .int .i64 13, .int .i64 14, .int .i64 15, .int .i64 16] 3)).drew)
  have O2 := Lib.hid OB.drew
  have rl1 := R1.out.lt
  clear OB
  refine wp_region_held_drew (S := fun W' => W'.cell? ⟨w1.heap.size, j, none⟩ = some (.int .i64 op)) (by kernel_rfl) hS fun hS0 => ?_
  clear hS
  have j0 : (0 : Int) ≤ (j : Int) := by omega
  have j1 : (j : Int) < 9 := by omega
  have wd : IntKind.i64.wrap (d : Int) = d := by rw [IntKind.wrap_i64]; omega
  refine take_first 0 (v := .slice (some ⟨w1.heap.size, 0, none⟩) 9 9) rfl (by kernel_rfl) (by kernel_rfl) (by kernel_rfl) (fun _ _ _ h => h) rfl (fun W' hW' => by go_simp) hS0 ?_
  refine take_first 1 (v := .pointer (some ⟨g, 0, none⟩)) rfl (by kernel_rfl) (by kernel_rfl) (by kernel_rfl) (fun _ _ _ h => h) rfl (fun W' hW' => by go_simp) hS0 ?_
  refine take_first 2 (v := .slice (some ⟨w1.heap.size, 0, none⟩) 9 9) rfl (by kernel_rfl) (by kernel_rfl) (by kernel_rfl) (fun _ _ _ h => h) rfl (fun W' hW' => by go_simp) hS0 ?_
  refine take_first 3 (v := .int .i64 9) rfl (by kernel_rfl) (by kernel_rfl) (by kernel_rfl) (fun _ _ _ h => h) rfl (fun W' hW' => by go_simp) hS0 ?_
  refine take_first 7 (v := .pointer (some ⟨g, 0, none⟩)) rfl (by kernel_rfl) (by kernel_rfl) (by kernel_rfl) (fun _ _ _ h => h) rfl (fun W' hW' => by go_simp) hS0 ?_
  refine take_first 8 (v := .int .i64 ((d : Int) + 1)) rfl (by kernel_rfl) (by kernel_rfl) (by kernel_rfl) (fun _ _ _ h => h) rfl (fun W' hW' => by go_simp) hS0 ?_
  refine take_first 9 (v := .int .i64 d) rfl (by kernel_rfl) (by kernel_rfl) (by kernel_rfl) (fun _ _ _ h => h) rfl (fun W' hW' => by go_simp) hS0 ?_
  refine one_next 4 (by kernel_rfl) rfl rfl fun K4 hK4 => ?_
  have HK4 := Lib.hid hK4
  clear hK4
  go_simp
  refine (KM.out _ T2.out.src).mono ?_
  rintro e w2 ⟨rfl, t2⟩
  have T3 := Lib.hid (T2.out.trans t2)
  have R3 := Lib.hid (t2.blk R2.out (by omega))
  have O3 := Lib.hid (t2.blk O2.out (by omega))
  have hS2 : w2.cell? ⟨w1.heap.size, j, none⟩ = some (.int .i64 op) := O3.out.cell' j FJ
  refine HK4.out _ _ hS2 ?_
  clear HK4 KM t2
  refine take_first 5 (v := .pointer (some ⟨w1.heap.size, j, none⟩)) rfl (by kernel_rfl) (by kernel_rfl) (by kernel_rfl) (fun _ _ _ h => h) rfl (fun W' hW' => by go_simp) hS2 ?_
  refine take_first 6 (v := .int .i64 op) rfl (by kernel_rfl) (by kernel_rfl) (by kernel_rfl) (fun _ _ _ h => h) rfl (fun W' hW' => by go_simp) hS2 ?_
  refine one_next 10 (by kernel_rfl) rfl rfl fun K10 hK10 => ?_
  have HK10 := Lib.hid hK10
  clear hK10
  go_simp
  refine (IH2.out _ T3.out.src).mono ?_
  rintro e w3 ⟨a5, c5, rfl, hE, t3⟩
  have T4 := Lib.hid (T3.out.trans t3)
  have R4 := Lib.hid (t3.blk R3.out (by omega))
  have O4 := Lib.hid (t3.blk O3.out (by omega))
  have sz4 := t3.size
  have sz3 := T3.out.size
  have rl2 := R3.out.lt
  dsimp only [Ex.op, Ex.n, Ex.kids] at *
  refine HK10.out _ _ (O4.out.cell' j FJ) ?_
  clear HK10 IH2 t3
  refine one_next 11 (by kernel_rfl) rfl rfl fun K11 hK11 => ?_
  have HK11 := Lib.hid hK11
  clear hK11
  refine wp_expr1 (.tmp 54) (.int .i64 yo) (.int .i64 yn) (.slice a5 yk.length c5) rfl (by with_unfolding_all rfl) ?_
  have N5 := Lib.hid (Blk.new w3 35 #[.int .i64 yo, .int .i64 yn, .slice a5 yk.length c5])
  have T5 := Lib.hid (T4.out.alloc (.cells #[.int .i64 yo, .int .i64 yn, .slice a5 yk.length c5] 35))
  have R5 := Lib.hid (R4.out.alloc (.cells #[.int .i64 yo, .int .i64 yn, .slice a5 yk.length c5] 35))
  have O5 := Lib.hid (O4.out.alloc (.cells #[.int .i64 yo, .int .i64 yn, .slice a5 yk.length c5] 35))
  have E5 := Lib.hid (hE.alloc (.cells #[.int .i64 yo, .int .i64 yn, .slice a5 yk.length c5] 35))
  have rl3 := R4.out.lt
  have g5 : (w3.alloc (.cells #[.int .i64 yo, .int .i64 yn, .slice a5 yk.length c5] 35)).heap.size = w3.heap.size + 1 := by simp
  clear hE
  generalize (w3.alloc (.cells #[.int .i64 yo, .int .i64 yn, .slice a5 yk.length c5] 35)) = W6 at *
  refine HK11.out _ _ (O5.out.cell' j FJ) ?_
  clear HK11
  refine one_next 12 (by kernel_rfl) rfl rfl fun K12 hK12 => ?_
  have HK12 := Lib.hid hK12
  clear hK12
  go_simp
  refine HK12.out _ _ (O5.out.cell' j FJ) ?_
  clear HK12
  have c0 := R5.out.cell 0
  have c1 := R5.out.cell 1
  have c2 := R5.out.cell 2
  have z0 := R5.out.frozen 0
  have z1 := R5.out.frozen 1
  have z2 := R5.out.frozen 2
  refine one_next 13 (by kernel_rfl) rfl rfl fun K13 hK13 => ?_
  have HK13 := Lib.hid hK13
  clear hK13
  go_simp
  have no : w1.heap.size ≠ w.heap.size := by omega
  refine HK13.out _ _ ((((O5.out.far (p := ⟨w.heap.size, 0, none⟩) no _).far (p := ⟨w.heap.size, 1, none⟩) no _).far (p := ⟨w.heap.size, 2, none⟩) no _).cell' j FJ) ?_
  clear HK13 c0 c1 c2 z0 z1 z2
  refine wpAnyH_done (by kernel_rfl) ?_ _
  clear hS0 hS2 T2 R2 O2 T3 R3 O3 T1 R1 T4 R4 O4 O5
  go_simp
  go_wp2_with fail
  refine bodyPost_ret (results_cell_row rfl _ _ w.heap.size 35 #[.int .i64 op, .int .i64 0, .slice (some ⟨w3.heap.size, 0, none⟩) 1 1] (0, 0) _ rfl (show Blk _ _ _ _ from (((R5.out.put 0 _).put 1 _).put 2 _)) Try.underlying35 rfl (by kernel_rfl)) rfl ?_
  rw [HR.out]
  have nn : ¬ w.heap.size < w.heap.size := Nat.lt_irrefl _
  have nx : w3.heap.size ≠ w.heap.size := by omega
  have h6 := E5.out.imp (q := fun b => w.heap.size < b) fun b hb _ => Nat.lt_of_lt_of_le (by omega) hb
  have h7 := ((h6.set (r := ⟨w.heap.size, 0, none⟩) nn (.int .i64 op)).set (r := ⟨w.heap.size, 1, none⟩) nn (.int .i64 0)).set (r := ⟨w.heap.size, 2, none⟩) nn (.slice (some ⟨w3.heap.size, 0, none⟩) 1 1)
  have h8 := h7.one (x := .mk yo yn yk) (((N5.out.far (p := ⟨w.heap.size, 0, none⟩) nx _).far (p := ⟨w.heap.size, 1, none⟩) nx _).far (p := ⟨w.heap.size, 2, none⟩) nx _) (by omega) op 0
  exact .mk (h8.imp fun b hb _ => Nat.le_of_lt hb) ((((T5.out.set (r := ⟨w.heap.size, 0, none⟩) (Nat.le_refl _) gl _).set (r := ⟨w.heap.size, 1, none⟩) (Nat.le_refl _) gl _).set (r := ⟨w.heap.size, 2, none⟩) (Nat.le_refl _) gl _)) rfl

theorem bop_at {j : Nat} (h : j < 18) : (#[.int .i64 3, .int .i64 4, .int .i64 5, .int .i64 6, .int .i64 7, .int .i64 11, .int .i64 17, .int .i64 18, .int .i64 19, .int .i64 20, .int .i64 21, .int .i64 22, .int .i64 23, .int .i64 24, .int .i64 25, .int .i64 3, .int .i64 4, .int .i64 5] : Array Value)[j]? = some (.int .i64 (opOps.getD j 0)) := by
  match j, h with
  | 0, _ => rfl
  | 1, _ => rfl
  | 2, _ => rfl
  | 3, _ => rfl
  | 4, _ => rfl
  | 5, _ => rfl
  | 6, _ => rfl
  | 7, _ => rfl
  | 8, _ => rfl
  | 9, _ => rfl
  | 10, _ => rfl
  | 11, _ => rfl
  | 12, _ => rfl
  | 13, _ => rfl
  | 14, _ => rfl
  | 15, _ => rfl
  | 16, _ => rfl
  | 17, _ => rfl
  | n + 18, h => exact absurd h (by omega)
theorem expr2_run (v0 v1 v2 u0 u1 u2 : Value) (W : World) : (Instr.buildSlice 33 2 #[(0, .agg #[v0, v1, v2]), (1, .agg #[u0, u1, u2])]).run Try.prog W = .ok (.slice (some ⟨W.heap.size, 0, none⟩) 2 2) (W.alloc (.cells #[v0, v1, v2, u0, u1, u2] 35)) := by
  obtain ⟨i0, hi, hz0, hz1, hz2⟩ := info_parts infoExpr
  exact run_buildSlice W _ 35 2 _ #[v0, v1, v2, u0, u1, u2] i0 _ Try.underlying33 hi hz0 (by rw [hz1]; decide) (by rw [hz1]; decide) (by rw [hz1]; with_unfolding_all kernel_rfl)
theorem wp_expr2 {o : Oper} {a : Act} {w : World} {K : Act → World → Prop} {Q : Exit → Act → World → Prop} (x y : Operand) (v0 v1 v2 u0 u1 u2 : Value) (ho : o.op = .buildSlice 33 2 #[(0, x), (1, y)]) (hx : a.eval x = .agg #[v0, v1, v2]) (hy : a.eval y = .agg #[u0, u1, u2])
    (h : K (a.put o.dst (.slice (some ⟨w.heap.size, 0, none⟩) 2 2)) (w.alloc (.cells #[v0, v1, v2, u0, u1, u2] 35))) : o.wp Try.prog a w K Q := by
  unfold Oper.wp execOp
  simp only [ho, List.map_toArray, List.map_cons, List.map_nil, hx, hy, Sem.run_bind, expr2_run, Result.andThen_ok, Sem.run_pure]
  exact h
set_option maxRecDepth 100000 in
set_option maxHeartbeats 1000000 in
theorem expr_two (w : World) (B g : Nat) (ac : Option Addr) (c : Nat) (T : Tp) (k : Nat) (d : Nat) (r : Ex × Nat) (hs : Src w B g ac c T k) (hd : d ≤ 6) (hd1 : 1 ≤ d) (hv : 6 ≤ (nextF T k 10).1)
    (hF : r = (.mk (opOps.getD (nextF T (nextF T k 10).2 18).1.toNat 0) 0 [(exprF T d (nextF T (nextF T k 10).2 18).2).1, (exprF T d (exprF T d (nextF T (nextF T k 10).2 18).2).2).1],
        (exprF T d (exprF T d (nextF T (nextF T k 10).2 18).2).2).2))
    (IH : ∀ W k, Src W B g ac c T k → Calls Try.prog 46 #[.pointer (some ⟨g, 0, none⟩), .int .i64 d] W (ExprPost B g ac c T W (exprF T d k))) :
    Calls Try.prog 46 #[.pointer (some ⟨g, 0, none⟩), .int .i64 ((d : Int) + 1)] w (ExprPost B g ac c T w r) := by
  have IH' := Lib.hid IH
  clear IH
  have gl := hs.lt
  have t0 := (Took.start hs).alloc (.cells #[.int .i64 0, .int .i64 0, .slice none 0 0] 35)
  have r0 := Blk.new w 35 #[.int .i64 0, .int .i64 0, .slice none 0 0]
  have KN := Lib.hid (next_any _ B g ac c T k 10 t0.src (by decide) (by decide))
  have h1 := nextF_lo T k (m := 10) (by decide)
  have h2 := nextF_hi T k (m := 10) (by decide)
  have T0 := Lib.hid t0
  have R0 := Lib.hid r0
  clear t0 r0
  generalize nextF T k 10 = s at *
  obtain ⟨v, k1⟩ := s
  dsimp only at *
  clear hs
  have KM := Lib.hid (fun W (hW : Src W B g ac c T k1) => next_any W B g ac c T k1 18 hW (by decide) (by decide))
  have o1 := nextF_lo T k1 (m := 18) (by decide)
  have o2 := nextF_hi T k1 (m := 18) (by decide)
  generalize nextF T k1 18 = q at *
  obtain ⟨ov, k2⟩ := q
  dsimp only at *
  obtain ⟨j, rfl⟩ : ∃ j : Nat, ov = j := ⟨ov.toNat, by omega⟩
  rw [Int.toNat_natCast] at hF
  have hj : j < 18 := by omega
  have FJ := bop_at hj
  generalize opOps.getD j 0 = op at *
  have ih := fun W hW => IH'.out W k2 hW
  generalize exprF T d k2 = y at *
  obtain ⟨⟨yo, yn, yk⟩, k4⟩ := y
  dsimp only at *
  have ih2 := fun W hW => IH'.out W k4 hW
  generalize exprF T d k4 = x at *
  obtain ⟨⟨xo, xn, xk⟩, k5⟩ := x
  dsimp only [Ex.op, Ex.n, Ex.kids] at *
  have IH1 := Lib.hid ih
  have IH2 := Lib.hid ih2
  have HR := Lib.hid hF
  clear hF ih ih2 IH'
  have d1 : decide ((d : Int) + 1 < 2) = false := decide_eq_false (by omega)
  have d2 : decide (v < 3) = false := decide_eq_false (by omega)
  have d3 : decide (v < 5) = false := decide_eq_false (by omega)
  have d4 : decide (v < 6) = false := decide_eq_false (by omega)
  clear hv h1 h2
  go_enter Try.func46, Try.ntmps46
  go_wp2_with fail
  refine KN.out.mono ?_
  rintro e w1 ⟨rfl, t1⟩
  have r1 := t1.blk R0.out (by omega)
  have T1 := Lib.hid (T0.out.trans t1)
  have R1 := Lib.hid r1
  clear t1 r1 KN T0 R0
  obtain ⟨i0, hi, hz0, hz1, hz2⟩ := info_parts infoIntS
  have j0 : (0 : Int) ≤ (j : Int) := by omega
  have j1 : (j : Int) < 18 := by omega
  have wd : IntKind.i64.wrap (d : Int) = d := by rw [IntKind.wrap_i64]; omega
  go_wp2_with ((with_reducible refine go_buildSlice 23 3 18 _ #[.int .i64 3, .int .i64 4, .int .i64 5, .int .i64 6, .int .i64 7, .int .i64 11, .int .i64 17, .int .i64 18, .int .i64 19, .int .i64 20, .int .i64 21, .int .i64 22, .int .i64 23, .int .i64 24, .int .i64 25, .int .i64 3, .int .i64 4, .int .i64 5] i0 _ Try.underlying23 hi hz0 (by rw [hz1]; decide) (by rw [hz1]; decide) (by rw [hz1]; with_unfolding_all kernel_rfl) ?_))
  have O2 := Lib.hid (Blk.new w1 3 #[.int .i64 3, .int .i64 4, .int .i64 5, .int .i64 6, .int .i64 7, .int .i64 11, .int .i64 17, .int .i64 18, .int .i64 19, .int .i64 20, .int .i64 21, .int .i64 22, .int .i64 23, .int .i64 24, .int .i64 25, .int .i64 3, .int .i64 4, .int .i64 5])
  have T2 := Lib.hid (T1.out.alloc (.cells #[.int .i64 3, .int .i64 4, .int .i64 5, .int .i64 6, .int .i64 7, .int .i64 11, .int .i64 17, .int .i64 18, .int .i64 19, .int .i64 20, .int .i64 21, .int .i64 22, .int .i64 23, .int .i64 24, .int .i64 25, .int .i64 3, .int .i64 4, .int .i64 5] 3))
  have R2 := Lib.hid (R1.out.alloc (.cells #[.int .i64 3, .int .i64 4, .int .i64 5, .int .i64 6, .int .i64 7, .int .i64 11, .int .i64 17, .int .i64 18, .int .i64 19, .int .i64 20, .int .i64 21, .int .i64 22, .int .i64 23, .int .i64 24, .int .i64 25, .int .i64 3, .int .i64 4, .int .i64 5] 3))
  have rl1 := R1.out.lt
  refine (KM.out _ T2.out.src).mono ?_
  rintro e w2 ⟨rfl, t2⟩
  have T3 := Lib.hid (T2.out.trans t2)
  have R3 := Lib.hid (t2.blk R2.out (by omega))
  have O3 := t2.blk O2.out (by omega)
  have oj := O3.cell' j FJ
  clear KM t2 O3 T2 R2 O2 T1 R1
  go_wp2_with fail
  refine (IH1.out _ T3.out.src).mono ?_
  rintro e w3 ⟨a5, c5, rfl, hE, t3⟩
  have T4 := Lib.hid (T3.out.trans t3)
  have R4 := Lib.hid (t3.blk R3.out (by omega))
  have rl2 := R3.out.lt
  have sz3 := t3.size
  have hE' := Lib.hid hE
  clear oj hE IH1 t3
  dsimp only [Ex.op, Ex.n, Ex.kids] at *
  go_upto_region 15 with fail
  have X4 := Lib.hid (Blk.new w3 35 #[.int .i64 yo, .int .i64 yn, .slice a5 yk.length c5]).drew
  have T5 := Lib.hid ((T4.out.alloc (.cells #[.int .i64 yo, .int .i64 yn, .slice a5 yk.length c5] 35)).drew)
  have R5 := Lib.hid ((R4.out.alloc (.cells #[.int .i64 yo, .int .i64 yn, .slice a5 yk.length c5] 35)).drew)
  have E5 := Lib.hid (hE'.out.alloc (.cells #[.int .i64 yo, .int .i64 yn, .slice a5 yk.length c5] 35))
  have rl3 := R4.out.lt
  have sz4 : (w3.alloc (.cells #[.int .i64 yo, .int .i64 yn, .slice a5 yk.length c5] 35)).drew.heap.size = w3.heap.size + 1 := by simp
  have E5 := Lib.hid (show ExP (fun b => w2.heap.size ≤ b) (w3.alloc (.cells #[.int .i64 yo, .int .i64 yn, .slice a5 yk.length c5] 35)).drew (.mk yo yn yk) a5 c5 from E5.out.keep fun _ _ _ => rfl)
  refine wp_region_held_drew (S := fun W' => Blk W' w3.heap.size 35 #[.int .i64 yo, .int .i64 yn, .slice a5 yk.length c5]) (by kernel_rfl) X4.out fun hS0 => ?_
  generalize (w3.alloc (.cells #[.int .i64 yo, .int .i64 yn, .slice a5 yk.length c5] 35)).drew = W5 at *
  refine take_first 0 (v := .int .i64 op) rfl (by kernel_rfl) (by kernel_rfl) (by kernel_rfl) (fun _ _ _ h => h) rfl (fun W' hW' => by go_simp) hS0 ?_
  refine take_first 1 (v := .agg #[.int .i64 yo, .int .i64 yn, .slice a5 yk.length c5]) rfl (by kernel_rfl) (by kernel_rfl) (by kernel_rfl) (fun _ _ _ h => h) rfl (fun W' hW' => by have q0 := hW'.cell 0; have q1 := hW'.cell 1; have q2 := hW'.cell 2; go_simp) hS0 ?_
  refine take_first 2 (v := .pointer (some ⟨g, 0, none⟩)) rfl (by kernel_rfl) (by kernel_rfl) (by kernel_rfl) (fun _ _ _ h => h) rfl (fun W' hW' => by go_simp) hS0 ?_
  refine take_first 3 (v := .int .i64 ((d : Int) + 1)) rfl (by kernel_rfl) (by kernel_rfl) (by kernel_rfl) (fun _ _ _ h => h) rfl (fun W' hW' => by go_simp) hS0 ?_
  refine take_first 4 (v := .int .i64 d) rfl (by kernel_rfl) (by kernel_rfl) (by kernel_rfl) (fun _ _ _ h => h) rfl (fun W' hW' => by go_simp) hS0 ?_
  refine one_next 5 (by kernel_rfl) rfl rfl fun K5 hK5 => ?_
  have HK5 := Lib.hid hK5
  clear hK5
  go_simp
  refine (IH2.out _ T5.out.src).mono ?_
  rintro e w6 ⟨a6, c6, rfl, hE2, t6⟩
  have T6 := Lib.hid (T5.out.trans t6)
  have R6 := Lib.hid (t6.blk R5.out (by omega))
  have X6 := Lib.hid (t6.blk X4.out (by omega))
  have E6 := Lib.hid (E5.out.took t6 (by omega))
  have F6 := Lib.hid hE2
  have sz6 := t6.size
  dsimp only [Ex.op, Ex.n, Ex.kids] at *
  refine HK5.out _ _ X6.out ?_
  clear HK5 IH2 t6 hE2 T5 R5 X4 E5 T4 R4 T3 R3 hE'
  refine one_next 6 (by kernel_rfl) rfl rfl fun K6 hK6 => ?_
  have HK6 := Lib.hid hK6
  clear hK6
  refine wp_expr2 (.tmp 70) (.tmp 74) (.int .i64 yo) (.int .i64 yn) (.slice a5 yk.length c5) (.int .i64 xo) (.int .i64 xn) (.slice a6 xk.length c6) rfl (by with_unfolding_all rfl) (by with_unfolding_all rfl) ?_
  have N7 := Lib.hid (Blk.new w6 35 #[.int .i64 yo, .int .i64 yn, .slice a5 yk.length c5, .int .i64 xo, .int .i64 xn, .slice a6 xk.length c6])
  have T7 := Lib.hid (T6.out.alloc (.cells #[.int .i64 yo, .int .i64 yn, .slice a5 yk.length c5, .int .i64 xo, .int .i64 xn, .slice a6 xk.length c6] 35))
  have R7 := Lib.hid (R6.out.alloc (.cells #[.int .i64 yo, .int .i64 yn, .slice a5 yk.length c5, .int .i64 xo, .int .i64 xn, .slice a6 xk.length c6] 35))
  have X7 := Lib.hid (X6.out.alloc (.cells #[.int .i64 yo, .int .i64 yn, .slice a5 yk.length c5, .int .i64 xo, .int .i64 xn, .slice a6 xk.length c6] 35))
  have E7 := Lib.hid (E6.out.alloc (.cells #[.int .i64 yo, .int .i64 yn, .slice a5 yk.length c5, .int .i64 xo, .int .i64 xn, .slice a6 xk.length c6] 35))
  have F7 := Lib.hid (F6.out.alloc (.cells #[.int .i64 yo, .int .i64 yn, .slice a5 yk.length c5, .int .i64 xo, .int .i64 xn, .slice a6 xk.length c6] 35))
  have sz7 : (w6.alloc (.cells #[.int .i64 yo, .int .i64 yn, .slice a5 yk.length c5, .int .i64 xo, .int .i64 xn, .slice a6 xk.length c6] 35)).heap.size = w6.heap.size + 1 := by simp
  generalize (w6.alloc (.cells #[.int .i64 yo, .int .i64 yn, .slice a5 yk.length c5, .int .i64 xo, .int .i64 xn, .slice a6 xk.length c6] 35)) = W7 at *
  refine HK6.out _ _ X7.out ?_
  clear HK6 T6 R6 X6 E6 F6
  refine one_next 7 (by kernel_rfl) rfl rfl fun K7 hK7 => ?_
  have HK7 := Lib.hid hK7
  clear hK7
  go_simp
  refine HK7.out _ _ X7.out ?_
  clear HK7
  have c0 := R7.out.cell 0
  have c1 := R7.out.cell 1
  have c2 := R7.out.cell 2
  have z0 := R7.out.frozen 0
  have z1 := R7.out.frozen 1
  have z2 := R7.out.frozen 2
  refine one_next 8 (by kernel_rfl) rfl rfl fun K8 hK8 => ?_
  have HK8 := Lib.hid hK8
  clear hK8
  go_simp
  have no : w3.heap.size ≠ w.heap.size := by omega
  refine HK8.out _ _ (((X7.out.far (p := ⟨w.heap.size, 0, none⟩) no _).far (p := ⟨w.heap.size, 1, none⟩) no _).far (p := ⟨w.heap.size, 2, none⟩) no _) ?_
  clear HK8 c0 c1 c2 z0 z1 z2
  refine wpAnyH_done (by kernel_rfl) ?_ _
  clear hS0
  go_simp
  go_wp2_with fail
  refine bodyPost_ret (results_cell_row rfl _ _ w.heap.size 35 #[.int .i64 op, .int .i64 0, .slice (some ⟨w6.heap.size, 0, none⟩) 2 2] (0, 0) _ rfl (show Blk _ _ _ _ from (((R7.out.put 0 _).put 1 _).put 2 _)) Try.underlying35 rfl (by kernel_rfl)) rfl ?_
  rw [HR.out]
  have nn : ¬ w.heap.size < w.heap.size := Nat.lt_irrefl _
  have nx : w6.heap.size ≠ w.heap.size := by omega
  have h6 := E7.out.imp (q := fun b => w.heap.size < b) fun b hb _ => Nat.lt_of_lt_of_le (by omega) hb
  have h7 := ((h6.set (r := ⟨w.heap.size, 0, none⟩) nn (.int .i64 op)).set (r := ⟨w.heap.size, 1, none⟩) nn (.int .i64 0)).set (r := ⟨w.heap.size, 2, none⟩) nn (.slice (some ⟨w6.heap.size, 0, none⟩) 2 2)
  have k6 := F7.out.imp (q := fun b => w.heap.size < b) fun b hb _ => Nat.lt_of_lt_of_le (by omega) hb
  have k7 := ((k6.set (r := ⟨w.heap.size, 0, none⟩) nn (.int .i64 op)).set (r := ⟨w.heap.size, 1, none⟩) nn (.int .i64 0)).set (r := ⟨w.heap.size, 2, none⟩) nn (.slice (some ⟨w6.heap.size, 0, none⟩) 2 2)
  have h8 := h7.two (x := .mk yo yn yk) (y := .mk xo xn xk) k7 (((N7.out.far (p := ⟨w.heap.size, 0, none⟩) nx _).far (p := ⟨w.heap.size, 1, none⟩) nx _).far (p := ⟨w.heap.size, 2, none⟩) nx _) (by omega) op 0
  exact .mk (h8.imp fun b hb _ => Nat.le_of_lt hb) ((((T7.out.set (r := ⟨w.heap.size, 0, none⟩) (Nat.le_refl _) gl _).set (r := ⟨w.heap.size, 1, none⟩) (Nat.le_refl _) gl _).set (r := ⟨w.heap.size, 2, none⟩) (Nat.le_refl _) gl _)) rfl
/-- Expr at any depth up to 6. -/
theorem expr_any : ∀ (d : Nat) (w : World) (B g : Nat) (ac : Option Addr) (c : Nat) (T : Tp) (k : Nat), d ≤ 6 → Src w B g ac c T k →
    Calls Try.prog 46 #[.pointer (some ⟨g, 0, none⟩), .int .i64 d] w (ExprPost B g ac c T w (exprF T d k))
  | 0, w, B, g, ac, c, T, k, hd, hs => by
    rw [exprF]
    exact expr_leaf w B g ac c T k 0 hs hd (.inl (by decide))
  | d + 1, w, B, g, ac, c, T, k, hd, hs => by
    have ih := fun W k hW => expr_any d W B g ac c T k (by omega) hW
    have hF := exprF.eq_2 T k d
    by_cases hl : d + 1 < 2 ∨ (nextF T k 10).1 < 3
    · rw [if_pos hl] at hF
      rw [hF]
      exact expr_leaf w B g ac c T k (d + 1) hs hd hl
    rw [if_neg hl] at hF
    rw [Int.natCast_succ]
    by_cases h5 : (nextF T k 10).1 < 5
    · rw [if_pos h5] at hF
      exact expr_var w B g ac c T k d _ hs (by omega) (by omega) ⟨by omega, h5⟩ hF ih
    rw [if_neg h5] at hF
    by_cases h6 : (nextF T k 10).1 < 6
    · rw [if_pos h6] at hF
      exact expr_one w B g ac c T k d _ hs (by omega) (by omega) ⟨by omega, h6⟩ hF ih
    rw [if_neg h6] at hF
    exact expr_two w B g ac c T k d _ hs (by omega) (by omega) (by omega) hF ih
end Go.Proofs.Yteiogjgmedikhaa

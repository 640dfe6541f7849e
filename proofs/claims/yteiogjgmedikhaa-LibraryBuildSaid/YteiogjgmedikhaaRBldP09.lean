/-
  cncref09.Build's library in memory. No condition.
-/
import Derived.Test.YteiogjgmedikhaaBuild09
import Derived.Test.YteiogjgmedikhaaRValid09
namespace Go.Proofs.Yteiogjgmedikhaa
open Go Go.RowKit
set_option linter.unusedVariables false

/-- The library under way: its programs, mates; the open loops. -/
structure RBldAt (base L : Nat) (vb : Value) (P : List (Int × Nat)) (e : Nat) (M : List Int) (O : List Nat) (vp vm vo : Value) (wr : World) : Prop where
  blk : Blk wr L 42 #[vb, vp, vm]
  progs : wr.ownsRow base 55 3 vp P.length (flat (progC P e) P.length)
  mate : wr.ownsRow base 3 1 vm M.length (flat (intC M) M.length)
  op : wr.ownsRow base 3 1 vo O.length (flat (intC (O.map (fun n : Nat => (n : Int)))) O.length)
  dis : ∀ q, vm.ownBlock = some q → vo.ownBlock ≠ some q
  far : base ≤ L
section
variable {base L : Nat} {vb : Value} {P : List (Int × Nat)} {e : Nat} {M : List Int} {O : List Nat} {vp vm vo : Value} {w w' : World}
theorem RBldAt.under (h : RBldAt base L vb P e M O vp vm vo w) (hb : Below w.heap.size w w') : RBldAt base L vb P e M O vp vm vo w' :=
  ⟨h.blk.below hb h.blk.lt, own_grown h.progs (grown_of_below hb) (by intro k e; cases e), own_grown h.mate (grown_of_below hb) (by intro k e; cases e), own_grown h.op (grown_of_below hb) (by intro k e; cases e), h.dis, h.far⟩
theorem own_setL {n size T : Nat} {v : Value} {xs : List Value} (h : w.ownsRow base T size v n xs) {cs : Array Value} (hb : Blk w L 42 cs) (hT : T ≠ 42) (j : Nat) (u : Value) : (w.setCell ⟨L, j, none⟩ u).ownsRow base T size v n xs :=
  own_setCell (p := ⟨L, j, none⟩) h hb hT
/-- A mate is appended. -/
theorem RBldAt.pushMate (h : RBldAt base L vb P e M O vp vm vo w) {x : Int} {g c : Nat} {w2 : World} (hp : Pushed w base 3 1 vm M.length (intC M) [.int .i64 x] g c w2) :
    RBldAt base L vb P e (M ++ [x]) O vp (.slice (some ⟨g, 0, none⟩) (M.length + 1) c) vo (w2.setCell ⟨L, 2, none⟩ (.slice (some ⟨g, 0, none⟩) (M.length + 1) c)) := by
  have hb2 := h.blk.grown hp.grown (own_ne h.mate h.blk (by decide))
  have hpr : w2.ownsRow base 55 3 vp P.length (flat (progC P e) P.length) := h.progs.kept hp.grown (by
    cases hv : vp.ownBlock with
    | none => exact .inl rfl
    | some q => exact .inr (fun e => own_ne_own h.progs h.mate (by decide) q hv e.symm))
  have hop : w2.ownsRow base 3 1 vo O.length (flat (intC (O.map (fun n : Nat => (n : Int)))) O.length) := h.op.kept hp.grown (by
    cases hv : vo.ownBlock with
    | none => exact .inl rfl
    | some q => exact .inr (fun e => h.dis q e.symm hv))
  have hm := hp.own
  rw [intC_snoc] at hm
  refine ⟨hb2.put 2 _, own_setL hpr hb2 (by decide) 2 _, ?_, own_setL hop hb2 (by decide) 2 _, fun q hq => ?_, h.far⟩
  · rw [List.length_append]
    exact own_setL hm hb2 (by decide) 2 _
  · simp [Value.ownBlock] at hq
    subst hq
    intro e2
    rcases hp.at' with e1 | e1
    · exact h.dis _ e1 e2
    · have := h.op.lt _ e2; omega
/-- An open loop is appended. -/
theorem RBldAt.pushOp (h : RBldAt base L vb P e M O vp vm vo w) {i : Nat} {g c : Nat} {w2 : World} (hp : Pushed w base 3 1 vo O.length (intC (O.map (fun n : Nat => (n : Int)))) [.int .i64 i] g c w2) :
    RBldAt base L vb P e M (O ++ [i]) vp vm (.slice (some ⟨g, 0, none⟩) (O.length + 1) c) w2 := by
  have hb2 := h.blk.grown hp.grown (own_ne h.op h.blk (by decide))
  have hpr : w2.ownsRow base 55 3 vp P.length (flat (progC P e) P.length) := h.progs.kept hp.grown (by
    cases hv : vp.ownBlock with
    | none => exact .inl rfl
    | some q => exact .inr (fun e => own_ne_own h.progs h.op (by decide) q hv e.symm))
  have hmt : w2.ownsRow base 3 1 vm M.length (flat (intC M) M.length) := h.mate.kept hp.grown (by
    cases hv : vm.ownBlock with
    | none => exact .inl rfl
    | some q => exact .inr (fun e => h.dis q hv e.symm))
  have hm := hp.own
  have hlen : O.length = (O.map (fun n : Nat => (n : Int))).length := by simp
  have hm2 : w2.ownsRow base 3 1 (.slice (some ⟨g, 0, none⟩) (O.length + 1) c) (O.length + 1) (flat (intC ((O ++ [i]).map (fun n : Nat => (n : Int)))) (O.length + 1)) := by
    have := intC_snoc (O.map (fun n : Nat => (n : Int))) i
    rw [← hlen] at this
    rw [this] at hm
    simpa using hm
  refine ⟨hb2, hpr, hmt, ?_, fun q hq => ?_, h.far⟩
  · rw [List.length_append]
    exact hm2
  · simp only [Value.ownBlock, ne_eq, Option.some.injEq]
    intro e2
    rcases hp.at' with e1 | e1
    · exact h.dis _ hq (by rw [e1, e2])
    · have := h.mate.lt _ hq; omega
/-- A program is appended; the one ahead of it ends at i. -/
theorem RBldAt.pushProg {i : Nat} (h : RBldAt base L vb P i M O vp vm vo w) {n : Int} {g c : Nat} {w2 : World} (hp : Pushed w base 55 3 vp P.length (progC P i) [.int .i64 n, .int .i64 i, .int .i64 (0 : Nat)] g c w2) :
    RBldAt base L vb (P ++ [(n, i)]) 0 M O (.slice (some ⟨g, 0, none⟩) (P.length + 1) c) vm vo (w2.setCell ⟨L, 1, none⟩ (.slice (some ⟨g, 0, none⟩) (P.length + 1) c)) := by
  have hb2 := h.blk.grown hp.grown (own_ne h.progs h.blk (by decide))
  have hmt : w2.ownsRow base 3 1 vm M.length (flat (intC M) M.length) := h.mate.kept hp.grown (by
    cases hv : vm.ownBlock with
    | none => exact .inl rfl
    | some q => exact .inr (fun e => own_ne_own h.mate h.progs (by decide) q hv e.symm))
  have hop : w2.ownsRow base 3 1 vo O.length (flat (intC (O.map (fun n : Nat => (n : Int)))) O.length) := h.op.kept hp.grown (by
    cases hv : vo.ownBlock with
    | none => exact .inl rfl
    | some q => exact .inr (fun e => own_ne_own h.op h.progs (by decide) q hv e.symm))
  have hm := hp.own
  rw [progC_snoc] at hm
  refine ⟨hb2.put 1 _, ?_, own_setL hmt hb2 (by decide) 1 _, own_setL hop hb2 (by decide) 1 _, h.dis, h.far⟩
  rw [List.length_append]
  exact own_setL hm hb2 (by decide) 1 _
/-- The last program ends at i. -/
theorem RBldAt.endSet (h : RBldAt base L vb P e M O vp vm vo w) (hP : P ≠ []) {g c : Nat} (hv : vp = .slice (some ⟨g, 0, none⟩) P.length c) (i : Nat) :
    RBldAt base L vb P i M O vp vm vo (w.setCell ⟨g, (P.length - 1) * 3 + 2, none⟩ (.int .i64 i)) := by
  subst hv
  obtain ⟨h1, h2⟩ := h.progs.stored ((P.length - 1) * 3 + 2) (.int .i64 i)
  rw [progC_end hP] at h1
  refine ⟨h.blk.grown h2 (fun e => own_ne h.progs h.blk (by decide) e), h1, h.mate.kept h2 ?_, h.op.kept h2 ?_, h.dis, h.far⟩
  · cases hv : vm.ownBlock with
    | none => exact .inl rfl
    | some q => exact .inr (fun e => own_ne_own h.mate h.progs (by decide) q hv e.symm)
  · cases hv : vo.ownBlock with
    | none => exact .inl rfl
    | some q => exact .inr (fun e => own_ne_own h.op h.progs (by decide) q hv e.symm)
theorem RBldAt.setMate (h : RBldAt base L vb P e M O vp vm vo w) {g c : Nat} (hvm : vm = .slice (some ⟨g, 0, none⟩) M.length c) {k : Nat} (hk : k < M.length) (x : Int) :
    RBldAt base L vb P e (M.set k x) O vp vm vo (w.setCell ⟨g, k, none⟩ (.int .i64 x)) := by
  subst hvm
  obtain ⟨h1, h2⟩ := h.mate.stored k (.int .i64 x)
  rw [intC_set M hk] at h1
  refine ⟨h.blk.grown h2 (fun e => own_ne h.mate h.blk (by decide) e), h.progs.kept h2 ?_, by rw [List.length_set]; exact h1, h.op.kept h2 ?_, h.dis, h.far⟩
  · cases hv : vp.ownBlock with
    | none => exact .inl rfl
    | some q => exact .inr (fun e => own_ne_own h.progs h.mate (by decide) q hv e.symm)
  · cases hv : vo.ownBlock with
    | none => exact .inl rfl
    | some q => exact .inr (fun e => h.dis q e.symm hv)
theorem RBldAt.popOp (h : RBldAt base L vb P e M O vp vm vo w) {go co : Nat} (hvo : vo = .slice (some ⟨go, 0, none⟩) O.length co) :
    RBldAt base L vb P e M O.dropLast vp vm (.slice (some ⟨go, 0, none⟩) (O.length - 1) co) w := by
  subst hvo
  have h1 := own_take h.op (m := O.length - 1) (by omega)
  have hlen : O.length = (O.map (fun n : Nat => (n : Int))).length := by simp
  have h2 := intC_take (O.map (fun n : Nat => (n : Int))) (m := O.length - 1) (by simp)
  rw [← hlen] at h2
  rw [h2] at h1
  have e1 : (O.map (fun n : Nat => (n : Int))).take (O.length - 1) = O.dropLast.map (fun n : Nat => (n : Int)) := by rw [← List.map_take, List.dropLast_eq_take]
  rw [e1] at h1
  refine ⟨h.blk, h.progs, h.mate, ?_, h.dis, h.far⟩
  rw [List.length_dropLast]
  exact h1
theorem RBldAt.mateAt (h : RBldAt base L vb P e M O vp vm vo w) {k : Nat} (hk : k < M.length) : ∃ g c, vm = .slice (some ⟨g, 0, none⟩) M.length c ∧ base ≤ g ∧ g < w.heap.size ∧ w.cell? ⟨g, k, none⟩ = some (.int .i64 (M.getD k 0)) ∧ w.frozen? ⟨g, k, none⟩ = false := by
  obtain ⟨aw, cw, e, hrow, hcap⟩ := RowAt.of_own h.mate (fun _ _ => rfl)
  obtain ⟨g, rfl, hg, ht⟩ := hrow.some (by omega)
  refine ⟨g, cw, e, hg, ht.lt, ?_, ht.frozen k⟩
  have := ht.cell hk (j := 0) (by decide)
  rw [Nat.mul_one, Nat.add_zero] at this
  rw [this]
  rfl
theorem RBldAt.progAt (h : RBldAt base L vb P e M O vp vm vo w) {k : Nat} (hk : k < P.length) : ∃ g c, vp = .slice (some ⟨g, 0, none⟩) P.length c ∧ base ≤ g ∧ g < w.heap.size ∧ (∀ j, j < 3 → w.cell? ⟨g, k * 3 + j, none⟩ = (progC P e k)[j]?) ∧ ∀ j, w.frozen? ⟨g, j, none⟩ = false := by
  obtain ⟨aw, cw, e', hrow, hcap⟩ := RowAt.of_own h.progs (fun _ _ => rfl)
  obtain ⟨g, rfl, hg, ht⟩ := hrow.some (by omega)
  exact ⟨g, cw, e', hg, ht.lt, fun j hj => ht.cell hk hj, fun j => ht.frozen j⟩
theorem RBldAt.opAt {lo : Option Addr} {n co : Nat} (h : RBldAt base L vb P e M O vp vm (.slice lo n co) w) {j t : Nat} (hj : O[j]? = some t) :
    ∃ g, lo = some ⟨g, 0, none⟩ ∧ base ≤ g ∧ g < w.heap.size ∧ w.cell? ⟨g, j, none⟩ = some (.int .i64 t) := by
  have hlt : j < O.length := (List.getElem?_eq_some_iff.1 hj).1
  rcases OwnTab.of_own h.op (fun _ _ => rfl) with ⟨_, e0⟩ | ⟨g, c, e, hg, ht⟩
  · omega
  · injection e with e1
    refine ⟨g, e1, hg, ht.lt, ?_⟩
    have := ht.cell hlt (j := 0) (by decide)
    rw [Nat.mul_one, Nat.add_zero] at this
    rw [this]
    simp [intC, hj]
theorem RBldAt.opCap (h : RBldAt base L vb P e M O vp vm vo w) {n : Nat} {lo : Option Addr} {co : Nat} (hv : vo = .slice lo n co) : O.length ≤ co ∧ co ≤ 9223372036854775807 := by
  obtain ⟨aw, cw, e, _, hcap⟩ := RowAt.of_own h.op (fun _ _ => rfl)
  rw [hv] at e
  injection e with _ _ e
  subst e
  exact hcap
end
end Go.Proofs.Yteiogjgmedikhaa

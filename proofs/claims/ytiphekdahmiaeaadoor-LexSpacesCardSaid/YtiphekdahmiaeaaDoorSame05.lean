/-
  cncref05.Same of two lists of tokens that read the same; awake. No condition.
-/
import Derived.Test.YtiphekdahmiaeaaDoorRTok05
import Derived.Test.YtiphekdahmiaeaaDoorTape05
namespace Go.Proofs.YtiphekdahmiaeaaDoor
open Go Go.RowKit
set_option linter.unusedVariables false

/-- The tokens lie in memory. -/
def ToksAt (W : World) (a : Option Addr) (ts : List TokL) : Prop := ∀ i t, ts[i]? = some t → ∃ b o, a = some ⟨b, o, none⟩ ∧ b < W.heap.size ∧ ∀ j v, (tokC t)[j]? = some v → W.cell? ⟨b, o + i * 4 + j, none⟩ = some v
theorem ToksAt.below {W W' : World} {a : Option Addr} {ts : List TokL} (h : ToksAt W a ts) (hb : Below W.heap.size W W') : ToksAt W' a ts := fun i t hi => by
  obtain ⟨b, o, e, hl, hc⟩ := h i t hi
  exact ⟨b, o, e, by have := hb.size; omega, fun j v hv => (hb.cell (p := ⟨b, o + i * 4 + j, none⟩) hl).trans (hc j v hv)⟩
theorem toks_own {W : World} {base : Nat} {v : Value} {ts : List TokL} (h : W.ownsRow base 39 4 v ts.length (toksC ts)) : ∃ a c, v = .slice a ts.length c ∧ ToksAt W a ts ∧ (a = none → ts.length = 0) := by
  rcases h.2 with ⟨rfl, e⟩ | ⟨g, cap, cur, rfl, hb, _⟩
  · refine ⟨none, 0, by rw [e], fun i t hi => ?_, fun _ => e⟩
    have := (List.getElem?_eq_some_iff.1 hi).1
    omega
  · refine ⟨_, _, rfl, fun i t hi => ⟨g, 0, rfl, (h.lt g rfl).2, fun j v hv => ?_⟩, fun e => by cases e⟩
    have hlt := (List.getElem?_eq_some_iff.1 hi).1
    have hj : j < 4 := (List.getElem?_eq_some_iff.1 hv).1
    rw [Nat.zero_add, h.cellAt _ (by omega), toksC_at ts i j t hi hj]
    exact hv
theorem exec_load {P : Program} {a : Act} {w : World} {o : Oper} (ty : TypeId) (x : Operand) (ho : o.op = .load ty x) (p : Addr) (v : Value) (hx : a.eval x = .pointer (some p))
    (hl : (Instr.loadAt ty (.pointer (some p))).run P w = .ok v w) : (execOp a.eval o).run P w = .ok (.value v) w := by
  unfold execOp
  simp only [ho, hx, Sem.run_bind, hl, Result.andThen_ok, Sem.run_pure]
theorem exec_neq {P : Program} {a : Act} {w : World} {o : Oper} (t t' : TypeId) (x y : Operand) (ho : o.op = .binOp .neq t x y t') (xs ys : Array Value) (b : Bool) (hx : a.eval x = .agg xs) (hy : a.eval y = .agg ys)
    (hm : P.eqGuardType P.depth t = false) (hr : (binOp .neq t (.agg xs) (.agg ys)).run P w = .ok (.bool b) w) : (execOp a.eval o).run P w = .ok (.value (.bool b)) w := by
  unfold execOp
  simp only [ho, hx, hy, Sem.run_bind, run_eqGuard_agg _ _ _ _ _ _ _ hm, Result.andThen_ok, hr, Sem.run_pure]
set_option maxRecDepth 100000 in
theorem tok_self (x : TokL) (W : World) : (binOp .neq 39 (.agg (tokC x).toArray) (.agg (tokC x).toArray)).run Tryd.prog W = .ok (.bool false) W := by
  obtain ⟨k, n, p, tx⟩ := x
  unfold tokC
  generalize mkB tx = B
  go_simp
set_option maxRecDepth 100000 in
set_option maxHeartbeats 1000000 in
theorem same_any (a1 a2 : Option Addr) (c d : Nat) (ts : List TokL) (w : World) (h1 : ToksAt w a1 ts) (h2 : ToksAt w a2 ts) (hn : ts.length ≤ 1000000) :
    Calls Tryd.prog 16 #[.slice a1 ts.length c, .slice a2 ts.length d] w fun e w' => e = .returned (.bool true) ∧ Below w.heap.size w w' := by
  have hget : ∀ k, k < ts.length → ∃ x, ts[k]? = some x := fun k hk => ⟨ts[k], List.getElem?_eq_getElem hk⟩
  obtain ⟨n, hln⟩ : ∃ n, ts.length = n := ⟨_, rfl⟩
  rw [hln] at hn hget ⊢
  have HG := Lib.hid hget
  clear hln hget
  go_enter Tryd.func16, Tryd.ntmps16
  go_wp2
  go_loopw [5] (fun v wr => ∃ k q : Nat, k ≤ n ∧ v = .int .i64 k ∧ wr = w.drewN q) (fun v _ => n - (intOf v).toNat)
  case atStart => exact ⟨0, 0, by omega, rfl, rfl⟩
  case round =>
    obtain ⟨k, q, hk, rfl, rfl⟩ := hrel
    have belq : Below w.heap.size w (w.drewN q) := below_drewN (Below.refl _ _) q
    by_cases hlt : k < n
    · obtain ⟨x, hx⟩ := HG.out k hlt
      obtain ⟨b1, o1, rfl, _, e1⟩ := h1 k x hx
      obtain ⟨b2, o2, rfl, _, e2⟩ := h2 k x hx
      have l1 : ∀ W', (∃ m, W' = w.drewN m) → (Instr.loadAt 39 (.pointer (some ⟨b1, o1 + k * 4, none⟩))).run Tryd.prog W' = .ok (.agg (tokC x).toArray) W' := by
        rintro W' ⟨m, rfl⟩
        exact run_loadAt_mid _ b1 (o1 + k * 4) 39 (tokC x) _ (fun j v hv => e1 j v hv) Tryd.underlying39 rfl (by kernel_rfl)
      have l2 : ∀ W', (∃ m, W' = w.drewN m) → (Instr.loadAt 39 (.pointer (some ⟨b2, o2 + k * 4, none⟩))).run Tryd.prog W' = .ok (.agg (tokC x).toArray) W' := by
        rintro W' ⟨m, rfl⟩
        exact run_loadAt_mid _ b2 (o2 + k * 4) 39 (tokC x) _ (fun j v hv => e2 j v hv) Tryd.underlying39 rfl (by kernel_rfl)
      have i1 : (0 : Int) ≤ (k : Int) := by omega
      have i2 : (k : Int) < (n : Int) := by omega
      have L1 := Lib.hid l1
      have L2 := Lib.hid l2
      clear l1 l2 hx e1 e2 h1 h2
      go_wp2_with fail
      refine wp_region_held_drew (S := fun w' => ∃ m, w' = w.drewN m) (by kernel_rfl) ⟨q + 1, rfl⟩ fun hS0 => ?_
      refine take_first 0 (v := .slice (some ⟨b1, o1, none⟩) n c) rfl (by kernel_rfl) (by kernel_rfl) (by kernel_rfl) (fun _ _ _ h => h) rfl (fun W' hW' => by go_simp) hS0 ?_
      refine take_first 1 (v := .int .i64 k) rfl (by kernel_rfl) (by kernel_rfl) (by kernel_rfl) (fun _ _ _ h => h) rfl (fun W' hW' => by go_simp) hS0 ?_
      refine take_first 2 (v := .pointer (some ⟨b1, o1 + k * 4, none⟩)) rfl (by kernel_rfl) (by kernel_rfl) (by kernel_rfl) (fun _ _ _ h => h) rfl (fun W' hW' => by go_simp) hS0 ?_
      refine take_first 3 (v := .agg (tokC x).toArray) rfl (by kernel_rfl) (by kernel_rfl) (by kernel_rfl) (fun _ _ _ h => h) rfl (fun W' hW' => by exact exec_load 39 (.tmp 19) rfl ⟨b1, o1 + k * 4, none⟩ _ (by go_simp) (L1.out W' hW')) hS0 ?_
      refine take_first 4 (v := .slice (some ⟨b2, o2, none⟩) n d) rfl (by kernel_rfl) (by kernel_rfl) (by kernel_rfl) (fun _ _ _ h => h) rfl (fun W' hW' => by go_simp) hS0 ?_
      refine take_first 5 (v := .int .i64 k) rfl (by kernel_rfl) (by kernel_rfl) (by kernel_rfl) (fun _ _ _ h => h) rfl (fun W' hW' => by go_simp) hS0 ?_
      refine take_first 6 (v := .pointer (some ⟨b2, o2 + k * 4, none⟩)) rfl (by kernel_rfl) (by kernel_rfl) (by kernel_rfl) (fun _ _ _ h => h) rfl (fun W' hW' => by go_simp) hS0 ?_
      refine take_first 7 (v := .agg (tokC x).toArray) rfl (by kernel_rfl) (by kernel_rfl) (by kernel_rfl) (fun _ _ _ h => h) rfl (fun W' hW' => by exact exec_load 39 (.tmp 23) rfl ⟨b2, o2 + k * 4, none⟩ _ (by go_simp) (L2.out W' hW')) hS0 ?_
      refine take_first 8 (v := .bool false) rfl (by kernel_rfl) (by kernel_rfl) (by kernel_rfl) (fun _ _ _ h => h) rfl (fun W' hW' => by exact exec_neq 39 39 (.tmp 20) (.tmp 24) rfl (tokC x).toArray (tokC x).toArray false (by go_simp) (by go_simp) (by kernel_rfl) (tok_self x W')) hS0 ?_
      refine wpAnyH_done (by kernel_rfl) ?_ _
      go_simp
      go_wp2_with fail
      go_roundw
      case rel => exact ⟨k + 1, q + 1, by omega, by go_num, rfl⟩
      case measure => simp [intOf]; omega
    · obtain rfl : k = n := by omega
      have d1 : decide (k < k) = false := by simp
      go_wp2_with fail
      go_ret
      exact ⟨rfl, belq⟩
theorem awake_lex : lexT (bl ⟨#[71, 49, 32, 71, 79, 84, 79]⟩) 0 = .ok [⟨1, 71, 0, []⟩, ⟨2, 1000000, 1, []⟩, ⟨3, 0, 3, [71, 79, 84, 79]⟩] := by with_unfolding_all kernel_rfl
set_option maxRecDepth 100000 in
theorem awake_true (w : World) (hN : NamesIs w) (hw0 : 0 < w.heap.size) : Calls Tryd.prog 11 #[] w fun e w' => e = .returned (.bool true) ∧ Below w.heap.size w w' := by
  have KT := tokens_any ⟨#[71, 49, 32, 71, 79, 84, 79]⟩ (by decide) w hN hw0
  rw [awake_lex] at KT
  have KT := Lib.hid KT
  go_enter Tryd.func11, Tryd.ntmps11
  go_wp2_with fail
  refine KT.out.mono ?_
  intro e w1 hp
  obtain ⟨v, rfl, hown, bel⟩ := hp
  have hN1 := hN.below bel hw0
  obtain ⟨a, c, rfl, hT, hne⟩ := toks_own hown
  obtain ⟨b, o, rfl, hbl, f0⟩ := hT 0 _ rfl
  obtain ⟨_, _, e1, _, f1⟩ := hT 1 _ rfl
  injection e1 with e1
  injection e1 with e1 e2
  subst e1
  subst e2
  obtain ⟨_, _, e1, _, f2⟩ := hT 2 _ rfl
  injection e1 with e1
  injection e1 with e1 e2
  subst e1
  subst e2
  have c0 := f0 0 _ rfl
  have c1 := f0 1 _ rfl
  have c2 := f0 2 _ rfl
  have c3 := f0 3 _ rfl
  have c5 := f1 1 _ rfl
  have c11 := f2 3 _ rfl
  have s0 : (((⟨#[71, 49, 32, 71, 79, 84, 79]⟩ : ByteArray).size : Nat) : Int) = 7 := rfl
  have KI := name_any ⟨#[73, 70]⟩ w1 hN1
  have eI : isName (bl ⟨#[73, 70]⟩) = true := by with_unfolding_all kernel_rfl
  rw [eI] at KI
  have KI := Lib.hid KI
  have m0 : mkB ([] : List UInt8) = ⟨#[]⟩ := rfl
  have m1 : mkB [71, 79, 84, 79] = ⟨#[71, 79, 84, 79]⟩ := rfl
  rw [m0] at c3
  rw [m1] at c11
  simp only [Nat.zero_mul, Nat.one_mul, Nat.add_zero] at c0 c1 c2 c3 c5 c11
  clear f0 f1 f2 hT hne hown KT eI m0 m1
  go_wp2_with fail
  refine KI.out.mono ?_
  rintro e w' ⟨rfl, rfl⟩
  go_wp2_with fail
  go_ret
  exact ⟨rfl, bel⟩
end Go.Proofs.YtiphekdahmiaeaaDoor

/-
  cncref16.Same of two tables that read the same. No condition.
-/
import Derived.Test.YtlpmbjgimllmgaaDoorTool16
import Derived.Test.YtlpmbjgimllmgaaDoorHeldBy
namespace Go.Proofs.YtlpmbjgimllmgaaDoor
open Go Go.RowKit
set_option linter.unusedVariables false

theorem exec_load {P : Program} {a : Act} {w : World} {o : Oper} (ty : TypeId) (x : Operand) (ho : o.op = .load ty x) (p : Addr) (v : Value) (hx : a.eval x = .pointer (some p))
    (hl : (Instr.loadAt ty (.pointer (some p))).run P w = .ok v w) : (execOp a.eval o).run P w = .ok (.value v) w := by
  unfold execOp
  simp only [ho, hx, Sem.run_bind, hl, Result.andThen_ok, Sem.run_pure]
theorem exec_neq {P : Program} {a : Act} {w : World} {o : Oper} (t t' : TypeId) (x y : Operand) (ho : o.op = .binOp .neq t x y t') (xs ys : Array Value) (b : Bool) (hx : a.eval x = .agg xs) (hy : a.eval y = .agg ys)
    (hm : P.eqGuardType P.depth t = false) (hr : (binOp .neq t (.agg xs) (.agg ys)).run P w = .ok (.bool b) w) : (execOp a.eval o).run P w = .ok (.value (.bool b)) w := by
  unfold execOp
  simp only [ho, hx, hy, Sem.run_bind, run_eqGuard_agg _ _ _ _ _ _ _ hm, Result.andThen_ok, hr, Sem.run_pure]
set_option maxRecDepth 100000 in
theorem to_self (x : To) (W : World) : (binOp .neq 29 (.agg (toC x).toArray) (.agg (toC x).toArray)).run Tryd.prog W = .ok (.bool false) W := by
  obtain ⟨k, n, p, u⟩ := x
  unfold toC
  go_simp
set_option maxRecDepth 100000 in
set_option maxHeartbeats 1000000 in
theorem same_any (a1 a2 : Option Addr) (c d : Nat) (ts : List To) (w : World) (h1 : TosAt w a1 ts) (h2 : TosAt w a2 ts) (hn : ts.length ≤ 1000000) :
    Calls Tryd.prog 20 #[.slice a1 ts.length c, .slice a2 ts.length d] w fun e w' => e = .returned (.bool true) ∧ Below w.heap.size w w' := by
  have hget : ∀ k, k < ts.length → ∃ x, ts[k]? = some x := fun k hk => ⟨ts[k], List.getElem?_eq_getElem hk⟩
  obtain ⟨n, hln⟩ : ∃ n, ts.length = n := ⟨_, rfl⟩
  rw [hln] at hn hget ⊢
  have HG := Lib.hid hget
  clear hln hget
  go_enter Tryd.func20, Tryd.ntmps20
  go_wp2
  go_loopw [5] (fun v wr => ∃ k q : Nat, k ≤ n ∧ v = .int .i64 k ∧ wr = w.drewN q) (fun v _ => n - (intOf v).toNat)
  case atStart => exact ⟨0, 0, by omega, rfl, rfl⟩
  case round =>
    obtain ⟨k, q, hk, rfl, rfl⟩ := hrel
    have belq : Below w.heap.size w (w.drewN q) := below_drewN (Below.refl _ _) q
    by_cases hlt : k < n
    · obtain ⟨x, hx⟩ := HG.out k hlt
      obtain ⟨b1, o1, rfl, _, e1⟩ := h1 k x hx
      obtain ⟨b2, o2, rfl, _, e2⟩ := h2 k x hx
      have l1 : ∀ W', (∃ m, W' = w.drewN m) → (Instr.loadAt 29 (.pointer (some ⟨b1, o1 + k * 4, none⟩))).run Tryd.prog W' = .ok (.agg (toC x).toArray) W' := by
        rintro W' ⟨m, rfl⟩
        exact run_loadAt_mid _ b1 (o1 + k * 4) 29 (toC x) _ (fun j v hv => e1 j v hv) Tryd.underlying29 rfl (by kernel_rfl)
      have l2 : ∀ W', (∃ m, W' = w.drewN m) → (Instr.loadAt 29 (.pointer (some ⟨b2, o2 + k * 4, none⟩))).run Tryd.prog W' = .ok (.agg (toC x).toArray) W' := by
        rintro W' ⟨m, rfl⟩
        exact run_loadAt_mid _ b2 (o2 + k * 4) 29 (toC x) _ (fun j v hv => e2 j v hv) Tryd.underlying29 rfl (by kernel_rfl)
      have i1 : (0 : Int) ≤ (k : Int) := by omega
      have i2 : (k : Int) < (n : Int) := by omega
      have L1 := Lib.hid l1
      have L2 := Lib.hid l2
      clear l1 l2 hx e1 e2 h1 h2
      go_wp2_with fail
      refine wp_region_held_drew (S := fun w' => ∃ m, w' = w.drewN m) (by kernel_rfl) ⟨q + 1, rfl⟩ fun hS0 => ?_
      refine take_first 0 (v := .slice (some ⟨b1, o1, none⟩) n c) rfl (by kernel_rfl) (by kernel_rfl) (by kernel_rfl) (fun _ _ _ h => h) rfl (fun W' hW' => by go_simp) hS0 ?_
      refine take_first 1 (v := .int .i64 k) rfl (by kernel_rfl) (by kernel_rfl) (by kernel_rfl) (fun _ _ _ h => h) rfl (fun W' hW' => by go_simp) hS0 ?_
      refine take_first 2 (v := .pointer (some ⟨b1, o1 + k * 4, none⟩)) rfl (by kernel_rfl) (by kernel_rfl) (by kernel_rfl) (fun _ _ _ h => h) rfl (fun W' hW' => by go_simp) hS0 ?_
      refine take_first 3 (v := .agg (toC x).toArray) rfl (by kernel_rfl) (by kernel_rfl) (by kernel_rfl) (fun _ _ _ h => h) rfl (fun W' hW' => by exact exec_load 29 (.tmp 19) rfl ⟨b1, o1 + k * 4, none⟩ _ (by go_simp) (L1.out W' hW')) hS0 ?_
      refine take_first 4 (v := .slice (some ⟨b2, o2, none⟩) n d) rfl (by kernel_rfl) (by kernel_rfl) (by kernel_rfl) (fun _ _ _ h => h) rfl (fun W' hW' => by go_simp) hS0 ?_
      refine take_first 5 (v := .int .i64 k) rfl (by kernel_rfl) (by kernel_rfl) (by kernel_rfl) (fun _ _ _ h => h) rfl (fun W' hW' => by go_simp) hS0 ?_
      refine take_first 6 (v := .pointer (some ⟨b2, o2 + k * 4, none⟩)) rfl (by kernel_rfl) (by kernel_rfl) (by kernel_rfl) (fun _ _ _ h => h) rfl (fun W' hW' => by go_simp) hS0 ?_
      refine take_first 7 (v := .agg (toC x).toArray) rfl (by kernel_rfl) (by kernel_rfl) (by kernel_rfl) (fun _ _ _ h => h) rfl (fun W' hW' => by exact exec_load 29 (.tmp 23) rfl ⟨b2, o2 + k * 4, none⟩ _ (by go_simp) (L2.out W' hW')) hS0 ?_
      refine take_first 8 (v := .bool false) rfl (by kernel_rfl) (by kernel_rfl) (by kernel_rfl) (fun _ _ _ h => h) rfl (fun W' hW' => by exact exec_neq 29 29 (.tmp 20) (.tmp 24) rfl (toC x).toArray (toC x).toArray false (by go_simp) (by go_simp) (by kernel_rfl) (to_self x W')) hS0 ?_
      refine wpAnyH_done (by kernel_rfl) ?_ _
      go_simp
      go_wp2_with fail
      go_roundw
      case rel => exact ⟨k + 1, q + 1, by omega, by go_num, rfl⟩
      case measure => simp [intOf]; omega
    · obtain rfl : k = n := by omega
      have d1 : decide (k < k) = false := by simp
      go_wp2_with fail
      go_ret
      exact ⟨rfl, belq⟩
end Go.Proofs.YtlpmbjgimllmgaaDoor

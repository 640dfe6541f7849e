/-
  Lists of items that lie where a slice leads; cncref14.Same of two that read the same.
-/
import Derived.Test.YtnbfhdapdlpgiaaRCirc15
import Derived.Laws.StructEq
namespace Go.Proofs.Ytnbfhdapdlpgiaa
open Go Go.RowKit
set_option linter.unusedVariables false

/-- Items that lie where a slice leads. -/
def ItemsAt (w : World) (a : Option Addr) (l : List (List Value)) : Prop := ∀ i c, l[i]? = some c → ∃ b o, a = some ⟨b, o, none⟩ ∧ b < w.heap.size ∧ ∀ j v, c[j]? = some v → w.cell? ⟨b, o + i * 22 + j, none⟩ = some v
theorem ItemsAt.below {w w' : World} {a : Option Addr} {l : List (List Value)} (h : ItemsAt w a l) (hb : Below w.heap.size w w') : ItemsAt w' a l := fun i c hc => by
  obtain ⟨b, o, e, hlt, hx⟩ := h i c hc
  exact ⟨b, o, e, by have := hb.size; omega, fun j v hv => (hb.cell (p := ⟨b, o + i * 22 + j, none⟩) hlt).trans (hx j v hv)⟩
theorem ItemsAt.drewN {w : World} {a : Option Addr} {l : List (List Value)} (h : ItemsAt w a l) (n : Nat) : ItemsAt (w.drewN n) a l := h
theorem flatten_at : ∀ (l : List (List Value)) (i : Nat) (c : List Value), (∀ c ∈ l, c.length = 22) → l[i]? = some c → ∀ j v, c[j]? = some v → l.flatten[i * 22 + j]? = some v
  | [], i, c, _, h, _, _, _ => by simp at h
  | x :: l, 0, c, hl, h, j, v, hv => by
    simp at h
    subst h
    have : j < x.length := (List.getElem?_eq_some_iff.1 hv).1
    rw [List.flatten_cons, Nat.zero_mul, Nat.zero_add, List.getElem?_append_left this]
    exact hv
  | x :: l, i + 1, c, hl, h, j, v, hv => by
    have h22 := hl x (by simp)
    rw [List.flatten_cons, List.getElem?_append_right (by omega), h22, show (i + 1) * 22 + j - 22 = i * 22 + j by omega]
    exact flatten_at l i c (fun c hc => hl c (by simp [hc])) (by simpa using h) j v hv
theorem flatten_len : ∀ (l : List (List Value)), (∀ c ∈ l, c.length = 22) → l.flatten.length = l.length * 22
  | [], _ => rfl
  | x :: l, hl => by
    rw [List.flatten_cons, List.length_append, hl x (by simp), flatten_len l (fun c hc => hl c (by simp [hc])), List.length_cons]
    omega
theorem ItemsAt.own {w : World} {base e : Nat} {a : Option Addr} {c : Nat} {l : List (List Value)} (h : w.ownsRow base e 22 (.slice a l.length c) l.length l.flatten) (hl : ∀ c ∈ l, c.length = 22) : ItemsAt w a l := by
  intro i x hx
  have hi : i < l.length := (List.getElem?_eq_some_iff.1 hx).1
  rcases h.2 with ⟨h1, _⟩ | ⟨g, cap, cur, hv, _, hg, _⟩
  · injection h1 with _ h2
    omega
  · injection hv with ha _ hc
    subst ha
    subst hc
    refine ⟨g, 0, rfl, (Array.getElem?_eq_some_iff.1 hg).1, fun j v hv => ?_⟩
    have hf := flatten_at l i x hl hx j v hv
    have hlt := (List.getElem?_eq_some_iff.1 hf).1
    have := h.cellAt (i * 22 + j) (by have := h.1; omega)
    rw [Nat.zero_add, this]
    exact hf

/-- An item that is equal to itself as Go compares. -/
def Plain (c : List Value) : Prop := c.length = 22 ∧ ∀ W, (binOp .neq 40 (.agg c.toArray) (.agg c.toArray)).run Try.prog W = .ok (.bool false) W
set_option maxRecDepth 100000 in
theorem plain_line (u v : Int) : Plain (lineL u v) := ⟨rfl, fun W => by unfold lineL; go_simp⟩
set_option maxRecDepth 100000 in
theorem plain_turn (u v cu cw : Int) : Plain (turnL u v cu cw) := ⟨rfl, fun W => by unfold turnL; go_simp⟩
theorem plain_circ (cu cw : Int) (rs : List Int) : ∀ c ∈ circL cu cw rs, Plain c := by
  intro c hc
  obtain ⟨r, _, hr⟩ := List.mem_flatMap.1 hc
  simp only [ringC, List.mem_cons, List.not_mem_nil, or_false] at hr
  rcases hr with rfl | rfl
  · exact plain_line _ _
  · exact plain_turn _ _ _ _
theorem plain_circle (cu cw radius step : Int) : ∀ c ∈ circleL cu cw radius step, Plain c := by
  intro c hc
  unfold circleL at hc
  rcases List.mem_append.1 hc with h | h
  · exact plain_circ _ _ _ c h
  · simp at h; subst h; exact plain_line _ _
theorem plain_circleR (cu cw radius step : Int) : ∀ c ∈ (circleR cu cw radius step).1, Plain c := by
  unfold circleR
  split
  · split
    · exact plain_circle _ _ _ _
    · simp
  · simp
theorem circleR_len (cu cw radius step : Int) : (circleR cu cw radius step).1.length ≤ 2001 := by
  unfold circleR
  split
  · split
    · rename_i hN
      dsimp only
      unfold circleL
      rw [List.length_append, circL_len, ringsL_len, List.length_singleton]
      omega
    · simp
  · simp
theorem exec_load {P : Program} {a : Act} {w : World} {o : Oper} (ty : TypeId) (x : Operand) (ho : o.op = .load ty x) (p : Addr) (v : Value) (hx : a.eval x = .pointer (some p))
    (hl : (Instr.loadAt ty (.pointer (some p))).run P w = .ok v w) : (execOp a.eval o).run P w = .ok (.value v) w := by
  unfold execOp
  simp only [ho, hx, Sem.run_bind, hl, Result.andThen_ok, Sem.run_pure]

theorem exec_neq {P : Program} {a : Act} {w : World} {o : Oper} (t t' : TypeId) (x y : Operand) (ho : o.op = .binOp .neq t x y t') (xs ys : Array Value) (b : Bool) (hx : a.eval x = .agg xs) (hy : a.eval y = .agg ys)
    (hm : P.eqGuardType P.depth t = false) (hr : (binOp .neq t (.agg xs) (.agg ys)).run P w = .ok (.bool b) w) : (execOp a.eval o).run P w = .ok (.value (.bool b)) w := by
  unfold execOp
  simp only [ho, hx, hy, Sem.run_bind, run_eqGuard_agg _ _ _ _ _ _ _ hm, Result.andThen_ok, hr, Sem.run_pure]
set_option maxRecDepth 100000 in
set_option maxHeartbeats 2000000 in
/-- cncref14.Same of two lists that read the same. -/
theorem same_same (a1 a2 : Option Addr) (c d : Nat) (l : List (List Value)) (w : World) (h1 : ItemsAt w a1 l) (h2 : ItemsAt w a2 l) (hp : ∀ c ∈ l, Plain c) (hn : l.length ≤ 9223372036854775806) :
    Calls Try.prog 17 #[.slice a1 l.length c, .slice a2 l.length d] w fun e w' => e = .returned (.bool true) ∧ Below w.heap.size w w' := by
  have hget : ∀ k, k < l.length → ∃ x, l[k]? = some x ∧ Plain x := fun k hk => ⟨l[k], List.getElem?_eq_getElem hk, hp _ (List.getElem_mem hk)⟩
  obtain ⟨n, hln⟩ : ∃ n, l.length = n := ⟨_, rfl⟩
  rw [hln] at hn hget ⊢
  have HG := Lib.hid hget
  clear hln hget hp
  go_enter Try.func17, Try.ntmps17
  go_wp2
  go_loopw [5] (fun v wr => ∃ k q : Nat, k ≤ n ∧ v = .int .i64 k ∧ wr = w.drewN q) (fun v _ => n - (intOf v).toNat)
  case atStart => exact ⟨0, 0, by omega, rfl, rfl⟩
  case round =>
    obtain ⟨k, q, hk, rfl, rfl⟩ := hrel
    have belq : Below w.heap.size w (w.drewN q) := below_drewN (Below.refl _ _) q
    by_cases hlt : k < n
    · obtain ⟨x, hx, hpx, hne⟩ := HG.out k hlt
      obtain ⟨b1, o1, rfl, _, e1⟩ := h1 k x hx
      obtain ⟨b2, o2, rfl, _, e2⟩ := h2 k x hx
      have l1 : ∀ W', (∃ m, W' = w.drewN m) → (Instr.loadAt 40 (.pointer (some ⟨b1, o1 + k * 22, none⟩))).run Try.prog W' = .ok (.agg x.toArray) W' := by
        rintro W' ⟨m, rfl⟩
        exact run_loadAt_mid _ b1 (o1 + k * 22) 40 x _ (fun j v hv => e1 j v hv) Try.underlying40 rfl (by rw [hpx]; kernel_rfl)
      have l2 : ∀ W', (∃ m, W' = w.drewN m) → (Instr.loadAt 40 (.pointer (some ⟨b2, o2 + k * 22, none⟩))).run Try.prog W' = .ok (.agg x.toArray) W' := by
        rintro W' ⟨m, rfl⟩
        exact run_loadAt_mid _ b2 (o2 + k * 22) 40 x _ (fun j v hv => e2 j v hv) Try.underlying40 rfl (by rw [hpx]; kernel_rfl)
      have i1 : (0 : Int) ≤ (k : Int) := by omega
      have i2 : (k : Int) < (n : Int) := by omega
      have L1 := Lib.hid l1
      have L2 := Lib.hid l2
      have HNE := Lib.hid hne
      clear l1 l2 hne hx hpx e1 e2 h1 h2
      go_wp2_with fail
      refine wp_region_held_drew (S := fun w' => ∃ m, w' = w.drewN m) (by kernel_rfl) ⟨q + 1, rfl⟩ fun hS0 => ?_
      refine take_first 0 (v := .slice (some ⟨b1, o1, none⟩) n c) rfl (by kernel_rfl) (by kernel_rfl) (by kernel_rfl) (fun _ _ _ h => h) rfl (fun W' hW' => by go_simp) hS0 ?_
      refine take_first 1 (v := .int .i64 k) rfl (by kernel_rfl) (by kernel_rfl) (by kernel_rfl) (fun _ _ _ h => h) rfl (fun W' hW' => by go_simp) hS0 ?_
      refine take_first 2 (v := .pointer (some ⟨b1, o1 + k * 22, none⟩)) rfl (by kernel_rfl) (by kernel_rfl) (by kernel_rfl) (fun _ _ _ h => h) rfl (fun W' hW' => by go_simp) hS0 ?_
      refine take_first 3 (v := .agg x.toArray) rfl (by kernel_rfl) (by kernel_rfl) (by kernel_rfl) (fun _ _ _ h => h) rfl (fun W' hW' => by exact exec_load 40 (.tmp 19) rfl ⟨b1, o1 + k * 22, none⟩ _ (by go_simp) (L1.out W' hW')) hS0 ?_
      refine take_first 4 (v := .slice (some ⟨b2, o2, none⟩) n d) rfl (by kernel_rfl) (by kernel_rfl) (by kernel_rfl) (fun _ _ _ h => h) rfl (fun W' hW' => by go_simp) hS0 ?_
      refine take_first 5 (v := .int .i64 k) rfl (by kernel_rfl) (by kernel_rfl) (by kernel_rfl) (fun _ _ _ h => h) rfl (fun W' hW' => by go_simp) hS0 ?_
      refine take_first 6 (v := .pointer (some ⟨b2, o2 + k * 22, none⟩)) rfl (by kernel_rfl) (by kernel_rfl) (by kernel_rfl) (fun _ _ _ h => h) rfl (fun W' hW' => by go_simp) hS0 ?_
      refine take_first 7 (v := .agg x.toArray) rfl (by kernel_rfl) (by kernel_rfl) (by kernel_rfl) (fun _ _ _ h => h) rfl (fun W' hW' => by exact exec_load 40 (.tmp 23) rfl ⟨b2, o2 + k * 22, none⟩ _ (by go_simp) (L2.out W' hW')) hS0 ?_
      refine take_first 8 (v := .bool false) rfl (by kernel_rfl) (by kernel_rfl) (by kernel_rfl) (fun _ _ _ h => h) rfl (fun W' hW' => by exact exec_neq 40 40 (.tmp 20) (.tmp 24) rfl x.toArray x.toArray false (by go_simp) (by go_simp) (by kernel_rfl) (HNE.out W')) hS0 ?_
      refine wpAnyH_done (by kernel_rfl) ?_ _
      go_simp
      go_wp2_with fail
      go_roundw
      case rel => exact ⟨k + 1, q + 1, by omega, by go_num, rfl⟩
      case measure => simp [intOf]; omega
    · obtain rfl : k = n := by omega
      go_wp2_with fail
      go_ret
      exact ⟨rfl, belq⟩
end Go.Proofs.Ytnbfhdapdlpgiaa

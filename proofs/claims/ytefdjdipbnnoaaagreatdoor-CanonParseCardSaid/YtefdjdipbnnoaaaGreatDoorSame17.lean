/-
  cncref14.Same of two lists that read the same. No condition.
-/
import Derived.Test.YtefdjdipbnnoaaaGreatDoorCheck17
import Derived.Test.YtefdjdipbnnoaaaGreatDoorHeld
namespace Go.Proofs.YtefdjdipbnnoaaaGreatDoor
open Go Go.RowKit
set_option linter.unusedVariables false
set_option linter.unusedSimpArgs false

theorem eqI_self (i : It) : eqI i i = true := by unfold eqI; simp
set_option maxRecDepth 100000 in
set_option maxHeartbeats 1000000 in
theorem same_any (a1 a2 : Option Addr) (c d : Nat) (ts : List It) (w : World) (h1 : ItsAt w a1 ts) (h2 : ItsAt w a2 ts) (hn : ts.length ≤ 9223372036854775807) :
    Calls Tryz.prog 21 #[.slice a1 ts.length c, .slice a2 ts.length d] w fun e w' => e = .returned (.bool true) ∧ Below w.heap.size w w' := by
  have hget : ∀ k, k < ts.length → ∃ x, ts[k]? = some x := fun k hk => ⟨ts[k], List.getElem?_eq_getElem hk⟩
  obtain ⟨n, hln⟩ : ∃ n, ts.length = n := ⟨_, rfl⟩
  rw [hln] at hn hget ⊢
  have HG := Lib.hid hget
  have H1 := Lib.hid h1
  have H2 := Lib.hid h2
  clear hln hget h1 h2
  go_enter Tryz.func21, Tryz.ntmps21
  go_wp2_with fail
  go_loopw [5] (fun v wr => ∃ k : Nat, k ≤ n ∧ v = .int .i64 k ∧ Below w.heap.size w wr) (fun v _ => n - (intOf v).toNat)
  case atStart => exact ⟨0, by omega, rfl, Below.refl _ _⟩
  case round =>
    obtain ⟨k, hk, rfl, bel⟩ := hrel
    have BEL := Lib.hid bel
    clear bel
    by_cases hlt : k < n
    · obtain ⟨x, hx⟩ := HG.out k hlt
      have e1 : decide (k < n) = true := decide_eq_true hlt
      have e1' : decide ((k : Int) < (n : Int)) = true := decide_eq_true (by omega)
      obtain ⟨b1, o1, rfl, l1, c1⟩ := H1.out k x hx
      obtain ⟨b2, o2, rfl, l2, c2⟩ := H2.out k x hx
      have i1 : (0 : Int) ≤ (k : Int) := by omega
      have i2 : (k : Int) < (n : Int) := by omega
      let S : World → Prop := fun W => Below w.heap.size w W
      have hs : S wr.drew := BEL.out.drew
      have inst : Nonempty (At S) := ⟨⟨_, hs⟩⟩
      have L1 := Lib.hid (fun q : At S => (show (Instr.loadAt 25 (.pointer (some ⟨b1, o1 + k * 22, none⟩))).run Tryz.prog q.w = .ok (.agg (itA x)) q.w from run_loadAt_mid q.w b1 (o1 + k * 22) 25 (itA x).toList _ (fun j v hv => (q.ok.cell (p := ⟨b1, o1 + k * 22 + j, none⟩) l1).trans (c1 j v hv)) Tryz.underlying25 rfl (by kernel_rfl)))
      have L2 := Lib.hid (fun q : At S => (show (Instr.loadAt 25 (.pointer (some ⟨b2, o2 + k * 22, none⟩))).run Tryz.prog q.w = .ok (.agg (itA x)) q.w from run_loadAt_mid q.w b2 (o2 + k * 22) 25 (itA x).toList _ (fun j v hv => (q.ok.cell (p := ⟨b2, o2 + k * 22 + j, none⟩) l2).trans (c2 j v hv)) Tryz.underlying25 rfl (by kernel_rfl)))
      have NR := Lib.hid (fun W => (by have := neq_run x x W; rw [eqI_self] at this; exact this : (binOp .neq 25 (.agg (itA x)) (.agg (itA x))).run Tryz.prog W = .ok (.bool false) W))
      have HF : Hid (∀ q : At S, Below w.heap.size w q.w) := Lib.hid (fun q => q.ok)
      clear_value S
      clear c1 c2 hx
      go_upto_region 6 with fail
      refine wp_region_at S (by kernel_rfl) (by kernel_rfl) hs ?_
      repeat (first
        | (go_big_quiet_want; (first
            | refine quiet_load 25 (.tmp 19) rfl _ _ rfl L1.out ?_
            | refine quiet_load 25 (.tmp 23) rfl _ _ rfl L2.out ?_
            | refine quiet_neq 25 _ (.tmp 20) (.tmp 24) rfl (itA x) (itA x) false rfl rfl (by kernel_rfl) NR.out ?_); simp only [Act.put, List.setIfInBounds_toArray, List.set_cons_zero, List.set_cons_succ]; go_big_quiet_on)
        | go_big_quiet_step (fail))
      refine wpQuiet_nil ?_
      rintro _ ⟨p, rfl⟩
      have hb := HF.out p
      generalize p.w = W2 at hb ⊢
      have HB := Lib.hid hb
      clear HF inst hs L1 L2 NR hb
      go_wp2_with fail
      go_roundw
      case rel => exact ⟨k + 1, by omega, by go_num, HB.out⟩
      case measure => simp [intOf]; omega
    · obtain rfl : k = n := by omega
      have e1 : decide (k < k) = false := by simp
      have e1' : decide ((k : Int) < (k : Int)) = false := by simp
      go_wp2_with fail
      go_ret
      exact ⟨rfl, BEL.out⟩
end Go.Proofs.YtefdjdipbnnoaaaGreatDoor

/-
  WindowActive returns true. Its arguments: any.
-/
import Derived.Test.YtbnamogpacncgaaLaws34
namespace Go.Proofs.Ytbnamogpacncgaa
open Go Go.RowKit
set_option linter.unusedVariables false

set_option maxRecDepth 100000 in
set_option maxHeartbeats 1000000 in
theorem active_walk (c0 c1 : List Value) (w : World) (h0 : Leaves w markKs c0) (h2 : Leaves w overrideKs c1) :
    Calls Try.prog 3 #[.agg c0.toArray, .agg c1.toArray] w fun e w' => e = .returned (.bool true) ∧ Below w.heap.size w w' := by
  obtain ⟨pp, q, r, e0⟩ := mark_in h0
  obtain ⟨f, rp, h, si, op, e⟩ := override_in h2
  rw [e, e0]
  clear e e0 h0 h2
  go_enter Try.func3, Try.ntmps3
  go_wp2_with fail
  refine (awake_true _).mono ?_
  rintro e wa ⟨rfl, bel⟩
  have b1 : Blk wa w.heap.size 23 #[.int .i64 pp, .int .i64 q, .int .i64 r] := ((Blk.new w 23 _).alloc (.cells #[.int .i64 f, .int .i64 rp, .bool h, .bool si, .bool op] 25)).below bel (by simp; omega)
  have b2 : Blk wa (w.heap.size + 1) 25 #[.int .i64 f, .int .i64 rp, .bool h, .bool si, .bool op] := by
    have := (Blk.new (w.alloc (.cells #[.int .i64 pp, .int .i64 q, .int .i64 r] 23)) 25 #[.int .i64 f, .int .i64 rp, .bool h, .bool si, .bool op]).below bel (by simp)
    simpa using this
  have bel := ((Below.alloc (Below.refl w.heap.size w) (Nat.le_refl _) (.cells #[.int .i64 pp, .int .i64 q, .int .i64 r] 23)).alloc (by simp) (.cells #[.int .i64 f, .int .i64 rp, .bool h, .bool si, .bool op] 25)).trans (bel.mono (by simp; omega))
  go_wp2_with fail
  go_loopw [5] (fun v5 wr => ∃ k : Int, -1 ≤ k ∧ k ≤ 8 ∧ v5 = .int .i64 k ∧ Blk wr w.heap.size 23 #[.int .i64 pp, .int .i64 q, .int .i64 r] ∧ Blk wr (w.heap.size + 1) 25 #[.int .i64 f, .int .i64 rp, .bool h, .bool si, .bool op] ∧ Below w.heap.size w wr)
    (fun v5 _ => (8 - intOf v5).toNat)
  case atStart => exact ⟨-1, by omega, by omega, rfl, b1, b2, bel⟩
  case round =>
    clear b1 b2 bel
    obtain ⟨k, hk0, hk1, rfl, b1, b2, bel⟩ := hrel
    have hsz := bel.size
    by_cases hlt : k < 8
    · have hd : decide (k < 8) = true := decide_eq_true hlt
      have d0 := b1.cell 0
      have d1 := b1.cell 1
      have d2 := b1.cell 2
      simp at d0 d1 d2
      have ac := fun W => active_any pp k r f rp h si op W
      have rc := fun W => ractive_any pp k r f rp h si op W
      generalize act k si op = b at ac rc
      have AC := Lib.hid ac
      have RC := Lib.hid rc
      clear ac rc
      go_wp2_with fail
      have hs : Holds w.heap.size w [(wr.heap.size, 23, #[.int .i64 pp, .int .i64 k, .int .i64 r]), (w.heap.size, 23, #[.int .i64 pp, .int .i64 q, .int .i64 r]), (w.heap.size + 1, 25, #[.int .i64 f, .int .i64 rp, .bool h, .bool si, .bool op])] (wr.alloc (.cells #[.int .i64 pp, .int .i64 k, .int .i64 r] 23)) :=
        ⟨by intro x hx; simp at hx; rcases hx with rfl | rfl | rfl; exact Blk.new _ _ _; exact b1.alloc _; exact b2.alloc _, bel.alloc hsz _, by simp; omega⟩
      have hs := hs.drew
      let S := Holds w.heap.size w [(wr.heap.size, 23, #[.int .i64 pp, .int .i64 k, .int .i64 r]), (w.heap.size, 23, #[.int .i64 pp, .int .i64 q, .int .i64 r]), (w.heap.size + 1, 25, #[.int .i64 f, .int .i64 rp, .bool h, .bool si, .bool op])]
      have inst : Nonempty (At S) := ⟨⟨_, hs⟩⟩
      have x0 : ∀ p : At S, p.w.cell? ⟨wr.heap.size, 0, none⟩ = some (.int .i64 pp) := fun p => (p.ok.blk _ (by simp; exact .inl rfl)).cell' 0 rfl
      have x1 : ∀ p : At S, p.w.cell? ⟨wr.heap.size, 1, none⟩ = some (.int .i64 k) := fun p => (p.ok.blk _ (by simp; exact .inl rfl)).cell' 1 rfl
      have x2 : ∀ p : At S, p.w.cell? ⟨wr.heap.size, 2, none⟩ = some (.int .i64 r) := fun p => (p.ok.blk _ (by simp; exact .inl rfl)).cell' 2 rfl
      have y0 : ∀ p : At S, p.w.cell? ⟨w.heap.size + 1, 0, none⟩ = some (.int .i64 f) := fun p => (p.ok.blk _ (by simp; exact .inr (.inr rfl))).cell' 0 rfl
      have y1 : ∀ p : At S, p.w.cell? ⟨w.heap.size + 1, 1, none⟩ = some (.int .i64 rp) := fun p => (p.ok.blk _ (by simp; exact .inr (.inr rfl))).cell' 1 rfl
      have y2 : ∀ p : At S, p.w.cell? ⟨w.heap.size + 1, 2, none⟩ = some (.bool h) := fun p => (p.ok.blk _ (by simp; exact .inr (.inr rfl))).cell' 2 rfl
      have y3 : ∀ p : At S, p.w.cell? ⟨w.heap.size + 1, 3, none⟩ = some (.bool si) := fun p => (p.ok.blk _ (by simp; exact .inr (.inr rfl))).cell' 3 rfl
      have y4 : ∀ p : At S, p.w.cell? ⟨w.heap.size + 1, 4, none⟩ = some (.bool op) := fun p => (p.ok.blk _ (by simp; exact .inr (.inr rfl))).cell' 4 rfl
      have hA : ∀ (p : At S) o o' w', w' = (p.w.alloc o).alloc o' → S w' := fun p o o' w' h => h ▸ (p.ok.alloc o).alloc o'
      have hE : ∀ p : At S, S p.w := fun p => p.ok
      have hs' : S (wr.alloc (.cells #[.int .i64 pp, .int .i64 k, .int .i64 r] 23)).drew := hs
      have hfin : ∀ p : At S, Blk p.w w.heap.size 23 #[.int .i64 pp, .int .i64 q, .int .i64 r] ∧ Blk p.w (w.heap.size + 1) 25 #[.int .i64 f, .int .i64 rp, .bool h, .bool si, .bool op] ∧ Below w.heap.size w p.w := fun p => ⟨p.ok.blk _ (List.Mem.tail _ (List.Mem.head _)), p.ok.blk _ (List.Mem.tail _ (List.Mem.tail _ (List.Mem.head _))), p.ok.bel⟩
      have FIN := Lib.hid hfin
      clear hfin hs
      clear_value S
      refine wp_region_at S (by kernel_rfl) (by kernel_rfl) hs' ?_
      repeat go_big_quiet_step (first | with_reducible exact Calls.at_of (AC.out _) fun e w' h => ⟨h.1, hA _ _ _ _ h.2⟩ | with_reducible exact Calls.at_of (RC.out _) fun e w' h => ⟨h.1, hA _ _ _ _ h.2⟩)
      refine wpQuiet_nil ?_
      rintro _ ⟨p, rfl⟩
      obtain ⟨f1, f2, f3⟩ := FIN.out p
      go_wp2_with fail
      go_roundw
      case rel => exact ⟨k + 1, by omega, by omega, by go_num, f1, f2, f3⟩
      case measure => simp [intOf]; omega
    · obtain rfl : k = 8 := by omega
      have ac := fun W => active_any pp q r f rp h si op W
      have rc := fun W => ractive_any pp q r f rp h si op W
      generalize act q si op = b at ac rc
      have AC := Lib.hid ac
      have RC := Lib.hid rc
      clear ac rc
      go_wp2_with fail
      have hs : Holds w.heap.size w [(w.heap.size, 23, #[.int .i64 pp, .int .i64 q, .int .i64 r]), (w.heap.size + 1, 25, #[.int .i64 f, .int .i64 rp, .bool h, .bool si, .bool op])] wr :=
        ⟨by intro x hx; simp at hx; rcases hx with rfl | rfl; exact b1; exact b2, bel, hsz⟩
      have hs := hs.drew
      let S := Holds w.heap.size w [(w.heap.size, 23, #[.int .i64 pp, .int .i64 q, .int .i64 r]), (w.heap.size + 1, 25, #[.int .i64 f, .int .i64 rp, .bool h, .bool si, .bool op])]
      have inst : Nonempty (At S) := ⟨⟨_, hs⟩⟩
      have x0 : ∀ p : At S, p.w.cell? ⟨w.heap.size, 0, none⟩ = some (.int .i64 pp) := fun p => (p.ok.blk _ (by simp; exact .inl rfl)).cell' 0 rfl
      have x1 : ∀ p : At S, p.w.cell? ⟨w.heap.size, 1, none⟩ = some (.int .i64 q) := fun p => (p.ok.blk _ (by simp; exact .inl rfl)).cell' 1 rfl
      have x2 : ∀ p : At S, p.w.cell? ⟨w.heap.size, 2, none⟩ = some (.int .i64 r) := fun p => (p.ok.blk _ (by simp; exact .inl rfl)).cell' 2 rfl
      have y0 : ∀ p : At S, p.w.cell? ⟨w.heap.size + 1, 0, none⟩ = some (.int .i64 f) := fun p => (p.ok.blk _ (by simp; exact .inr rfl)).cell' 0 rfl
      have y1 : ∀ p : At S, p.w.cell? ⟨w.heap.size + 1, 1, none⟩ = some (.int .i64 rp) := fun p => (p.ok.blk _ (by simp; exact .inr rfl)).cell' 1 rfl
      have y2 : ∀ p : At S, p.w.cell? ⟨w.heap.size + 1, 2, none⟩ = some (.bool h) := fun p => (p.ok.blk _ (by simp; exact .inr rfl)).cell' 2 rfl
      have y3 : ∀ p : At S, p.w.cell? ⟨w.heap.size + 1, 3, none⟩ = some (.bool si) := fun p => (p.ok.blk _ (by simp; exact .inr rfl)).cell' 3 rfl
      have y4 : ∀ p : At S, p.w.cell? ⟨w.heap.size + 1, 4, none⟩ = some (.bool op) := fun p => (p.ok.blk _ (by simp; exact .inr rfl)).cell' 4 rfl
      have hA : ∀ (p : At S) o o' w', w' = (p.w.alloc o).alloc o' → S w' := fun p o o' w' h => h ▸ (p.ok.alloc o).alloc o'
      have hs' : S wr.drew := hs
      have hfin : ∀ p : At S, Below w.heap.size w p.w := fun p => p.ok.bel
      have FIN := Lib.hid hfin
      clear hfin hs
      clear_value S
      refine wp_region_at S (by kernel_rfl) (by kernel_rfl) hs' ?_
      repeat go_big_quiet_step (first | with_reducible exact Calls.at_of (AC.out _) fun e w' h => ⟨h.1, hA _ _ _ _ h.2⟩ | with_reducible exact Calls.at_of (RC.out _) fun e w' h => ⟨h.1, hA _ _ _ _ h.2⟩)
      refine wpQuiet_nil ?_
      rintro _ ⟨p, rfl⟩
      have f3 := FIN.out p
      go_wp2_with fail
      go_ret
      exact ⟨rfl, f3⟩
end Go.Proofs.Ytbnamogpacncgaa

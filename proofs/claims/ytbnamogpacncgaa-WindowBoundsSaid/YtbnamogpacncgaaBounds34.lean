/-
  WindowBounds returns true. Their arguments: any.
-/
import Derived.Test.YtbnamogpacncgaaNext34
namespace Go.Proofs.Ytbnamogpacncgaa
open Go Go.RowKit
set_option linter.unusedVariables false

theorem bounds_law {m : Nat → MarkV} {n first : Nat} {si op : Bool} {known from' a i : Int} (hs : ∀ i, i + 1 < n → (m i).pos ≤ (m (i + 1)).pos) (hk : from' ≤ known) (h : NextIs m n first si op known from' a i) :
    from' ≤ a ∧ a ≤ known ∧ -1 ≤ i ∧ i < n ∧ (i < 0 ∨ ∃ J : Nat, i = J ∧ first ≤ J ∧ J < n ∧ a = (m J).pos) ∧ ∀ k, first ≤ k → k < n → ¬ (act (m k).kind si op = true ∧ from' ≤ (m k).pos ∧ (m k).pos < a) := by
  have hs' := sorted_le hs
  rcases h with ⟨x, x0, x1, ⟨xh, xf, xk⟩, xn, hi, ha⟩ | ⟨hn, hi, ha⟩
  · refine ⟨by omega, by omega, by omega, by omega, .inr ⟨x, hi, x0, x1, ha⟩, fun k k0 k1 hh => ?_⟩
    by_cases e : k < x
    · exact xn k k0 e ⟨hh.1, hh.2.1, by omega⟩
    · have := hs' x k (by omega) k1
      omega
  · refine ⟨by omega, by omega, by omega, by omega, .inl (by omega), fun k k0 k1 hh => hn k k0 k1 ⟨hh.1, hh.2.1, by omega⟩⟩

set_option maxRecDepth 100000 in
set_option maxHeartbeats 1000000 in
theorem bounds_walk (a0 : Option Addr) (len0 cap0 : Nat) (a1 : Int) (c2 : List Value) (a3 a4 : Int) (w : World) (h0 : Leaf w (.tab markKs) (.slice a0 len0 cap0)) (h1 : (Lit.int .i64 a1).wf = true) (h2 : Leaves w overrideKs c2) :
    Calls Try.prog 5 #[.slice a0 len0 cap0, .int .i64 a1, .agg c2.toArray, .int .i64 a3, .int .i64 a4] w fun e w' => e = .returned (.bool true) ∧ Below w.heap.size w w' := by
  obtain ⟨m, hT, hmax⟩ := marks_in h0
  obtain ⟨f, rp, h, si, op, e⟩ := override_in h2
  rw [e]
  clear e h0 h2
  have h1' : a1 ≤ 9223372036854775807 := by simp [Lit.wf, IntKind.max, IntKind.min, IntKind.signed, IntKind.bits] at h1; omega
  go_enter Try.func5, Try.ntmps5
  go_wp2_with fail
  refine (awake_true _).mono ?_
  rintro e wa ⟨rfl, bel⟩
  have b1 : Blk wa w.heap.size 25 #[.int .i64 f, .int .i64 rp, .bool h, .bool si, .bool op] := (Blk.new w 25 _).below bel (by simp)
  have bel := (Below.alloc (Below.refl w.heap.size w) (Nat.le_refl _) (.cells #[.int .i64 f, .int .i64 rp, .bool h, .bool si, .bool op] 25)).trans (bel.mono (by simp))
  have hsz := bel.size
  have T1 := hT.below bel
  go_wp2_with fail
  refine (sorted_any a0 len0 cap0 m _ T1).mono ?_
  rintro e wx ⟨⟨r, rfl, hr⟩, q, rfl⟩
  have b1 := b1.drewN q
  have bel := below_drewN bel q
  have T1 := T1.drewN q
  generalize wa.drewN q = wb at *
  cases r with
  | false =>
    go_wp2_with fail
    go_ret
    exact ⟨rfl, bel⟩
  | true =>
    obtain ⟨hn, hs⟩ := hr rfl
    clear hr
    by_cases hf : a1 < 0
    · go_wp2_with fail
      go_ret
      exact ⟨rfl, bel⟩
    · obtain ⟨F, rfl⟩ := Int.eq_ofNat_of_zero_le (show 0 ≤ a1 by omega)
      have hfd : decide ((F : Int) < 0) = false := decide_eq_false hf
      by_cases hkm : a3 < a4
      · go_wp2_with fail
        go_ret
        exact ⟨rfl, bel⟩
      have hkd : decide (a3 < a4) = false := decide_eq_false hkm
      have d0 := b1.cell 0
      have d1 := b1.cell 1
      have d2 := b1.cell 2
      have d3 := b1.cell 3
      have d4 := b1.cell 4
      simp at d0 d1 d2 d3 d4
      go_wp2_with fail
      refine (next_any a0 len0 cap0 F m f rp h si op a3 a4 _ T1 hn (by omega)).mono ?_
      rintro e wc ⟨a, i, rfl, N1, i1, belC⟩
      have b2 := b1.below belC b1.lt
      have T2 := T1.below belC
      have belC := bel.trans (belC.mono bel.size)
      have szC := belC.size
      clear d0 d1 d2 d3 d4
      obtain ⟨l1, l2, l3, l4, l5, l6⟩ := bounds_law hs (by omega) N1
      have e1 : decide (a < a4) = false := decide_eq_false (by omega)
      have e2 : decide (a3 < a) = false := decide_eq_false (by omega)
      have e3 : decide (i < -1) = false := decide_eq_false (by omega)
      have e4 : decide ((len0 : Int) ≤ i) = false := decide_eq_false (by omega)
      clear hfd hkd N1
      have L6 := Lib.hid l6
      clear l6
      rcases l5 with l5 | ⟨J, rfl, jf, jn, ja⟩
      · have e5 : decide (0 ≤ i) = false := decide_eq_false (by omega)
        go_wp2_with fail
        clear e1 e2 e3 e4 e5
        go_loopw [13] (fun v13 wr => ∃ k : Nat, F ≤ k ∧ v13 = .int .i64 k ∧ Keeps w.heap.size w w.heap.size 25 #[.int .i64 f, .int .i64 rp, .bool h, .bool si, .bool op] wr)
          (fun v13 _ => len0 - (intOf v13).toNat)
        case atStart => exact ⟨F, Nat.le_refl _, rfl, b2, belC, szC⟩
        case round =>
          obtain ⟨k, hk0, rfl, hK⟩ := hrel
          by_cases hlt : k < len0
          · obtain ⟨_, b', o', eb, hbl', hc'⟩ := hT k hlt
            cases eb
            have nk := L6.out k hk0 hlt
            have ac := fun W => active_any (m k).pos (m k).kind (m k).item f rp h si op W
            have g0 : w.cell? ⟨b', o' + k * 3, none⟩ = some (.int .i64 (m k).pos) := hc' 0 (by omega)
            have g1 : w.cell? ⟨b', o' + k * 3 + 1, none⟩ = some (.int .i64 (m k).kind) := hc' 1 (by omega)
            have g2 : w.cell? ⟨b', o' + k * 3 + 2, none⟩ = some (.int .i64 (m k).item) := hc' 2 (by omega)
            clear hc'
            generalize (m k).pos = p0 at *
            generalize (m k).kind = q0 at *
            generalize (m k).item = r0 at *
            generalize act q0 si op = A at *
            have AC := Lib.hid ac
            clear ac
            have hs := hK.drew
            let S := Keeps w.heap.size w w.heap.size 25 #[.int .i64 f, .int .i64 rp, .bool h, .bool si, .bool op]
            have inst : Nonempty (At S) := ⟨⟨_, hs⟩⟩
            have x0 : ∀ p : At S, p.w.cell? ⟨b', o' + k * 3, none⟩ = some (.int .i64 p0) := fun p => (p.ok.bel.cell hbl').trans g0
            have x1 : ∀ p : At S, p.w.cell? ⟨b', o' + k * 3 + 1, none⟩ = some (.int .i64 q0) := fun p => (p.ok.bel.cell hbl').trans g1
            have x2 : ∀ p : At S, p.w.cell? ⟨b', o' + k * 3 + 2, none⟩ = some (.int .i64 r0) := fun p => (p.ok.bel.cell hbl').trans g2
            have y0 : ∀ p : At S, p.w.cell? ⟨w.heap.size, 0, none⟩ = some (.int .i64 f) := fun p => p.ok.cell 0 rfl
            have y1 : ∀ p : At S, p.w.cell? ⟨w.heap.size, 1, none⟩ = some (.int .i64 rp) := fun p => p.ok.cell 1 rfl
            have y2 : ∀ p : At S, p.w.cell? ⟨w.heap.size, 2, none⟩ = some (.bool h) := fun p => p.ok.cell 2 rfl
            have y3 : ∀ p : At S, p.w.cell? ⟨w.heap.size, 3, none⟩ = some (.bool si) := fun p => p.ok.cell 3 rfl
            have y4 : ∀ p : At S, p.w.cell? ⟨w.heap.size, 4, none⟩ = some (.bool op) := fun p => p.ok.cell 4 rfl
            have hA : ∀ (p : At S) o o' w', w' = (p.w.alloc o).alloc o' → S w' := fun p o o' w' h => h ▸ (p.ok.alloc o).alloc o'
            have hs' : S wr.drew := hs
            have hfin : ∀ p : At S, Keeps w.heap.size w w.heap.size 25 #[.int .i64 f, .int .i64 rp, .bool h, .bool si, .bool op] p.w := fun p => p.ok
            have FIN := Lib.hid hfin
            clear hfin hs g0 g1 g2
            clear_value S
            have i1 : (0 : Int) ≤ (k : Int) := by omega
            have i2 : (k : Int) < (len0 : Int) := by omega
            have three : A = false ∨ (A = true ∧ ¬ a4 ≤ p0) ∨ (A = true ∧ a4 ≤ p0 ∧ ¬ p0 < a) := by
              cases A
              · exact .inl rfl
              · by_cases h1 : a4 ≤ p0
                · exact .inr (.inr ⟨rfl, h1, fun h2 => nk ⟨rfl, h1, h2⟩⟩)
                · exact .inr (.inl ⟨rfl, h1⟩)
            clear nk
            rcases three with h1 | ⟨h1, h2⟩ | ⟨h1, h2, h3⟩
            all_goals
              subst h1
              first
                | (have z1 : decide (a4 ≤ p0) = false := decide_eq_false h2; clear h2)
                | (have z1 : decide (a4 ≤ p0) = true := decide_eq_true h2; have z2 : decide (p0 < a) = false := decide_eq_false h3; clear h2 h3)
                | skip
              go_wp2_with fail
              refine wp_region_at S (by kernel_rfl) (by kernel_rfl) hs' ?_
              repeat go_big_quiet_step (with_reducible exact Calls.at_of (AC.out _) fun e w' h => ⟨h.1, hA _ _ _ _ h.2⟩)
              refine wpQuiet_nil ?_
              rintro _ ⟨p, rfl⟩
              have f3 := FIN.out p
              go_wp2_with fail
              go_roundw
              case rel => exact ⟨k + 1, by omega, by go_num, f3⟩
              case measure => simp [intOf]; omega
          · have f3 := hK.bel
            go_wp2_with fail
            go_ret
            exact ⟨rfl, f3⟩
      · have e5 : decide (0 ≤ (J : Int)) = true := decide_eq_true (by omega)
        have e6 : decide (J < F) = false := decide_eq_false (by omega)
        have e7 : decide (len0 ≤ J) = false := decide_eq_false (by omega)
        obtain ⟨_, b, o, rfl, hbl, hc⟩ := T2 J jn
        have c0 : wc.cell? ⟨b, o + J * 3, none⟩ = some (.int .i64 (m J).pos) := hc 0 (by omega)
        rw [← ja] at c0
        clear ja
        have j1 : (0 : Int) ≤ (J : Int) := by omega
        have j2 : (J : Int) < (len0 : Int) := by omega
        go_wp2_with fail
        clear e1 e2 e3 e4 e5
        go_loopw [13] (fun v13 wr => ∃ k : Nat, F ≤ k ∧ v13 = .int .i64 k ∧ Keeps w.heap.size w w.heap.size 25 #[.int .i64 f, .int .i64 rp, .bool h, .bool si, .bool op] wr)
          (fun v13 _ => len0 - (intOf v13).toNat)
        case atStart => exact ⟨F, Nat.le_refl _, rfl, b2, belC, szC⟩
        case round =>
          obtain ⟨k, hk0, rfl, hK⟩ := hrel
          by_cases hlt : k < len0
          · obtain ⟨_, b', o', eb, hbl', hc'⟩ := hT k hlt
            cases eb
            have nk := L6.out k hk0 hlt
            have ac := fun W => active_any (m k).pos (m k).kind (m k).item f rp h si op W
            have g0 : w.cell? ⟨b, o + k * 3, none⟩ = some (.int .i64 (m k).pos) := hc' 0 (by omega)
            have g1 : w.cell? ⟨b, o + k * 3 + 1, none⟩ = some (.int .i64 (m k).kind) := hc' 1 (by omega)
            have g2 : w.cell? ⟨b, o + k * 3 + 2, none⟩ = some (.int .i64 (m k).item) := hc' 2 (by omega)
            clear hc'
            generalize (m k).pos = p0 at *
            generalize (m k).kind = q0 at *
            generalize (m k).item = r0 at *
            generalize act q0 si op = A at *
            have AC := Lib.hid ac
            clear ac
            have hs := hK.drew
            let S := Keeps w.heap.size w w.heap.size 25 #[.int .i64 f, .int .i64 rp, .bool h, .bool si, .bool op]
            have inst : Nonempty (At S) := ⟨⟨_, hs⟩⟩
            have x0 : ∀ p : At S, p.w.cell? ⟨b, o + k * 3, none⟩ = some (.int .i64 p0) := fun p => (p.ok.bel.cell hbl').trans g0
            have x1 : ∀ p : At S, p.w.cell? ⟨b, o + k * 3 + 1, none⟩ = some (.int .i64 q0) := fun p => (p.ok.bel.cell hbl').trans g1
            have x2 : ∀ p : At S, p.w.cell? ⟨b, o + k * 3 + 2, none⟩ = some (.int .i64 r0) := fun p => (p.ok.bel.cell hbl').trans g2
            have y0 : ∀ p : At S, p.w.cell? ⟨w.heap.size, 0, none⟩ = some (.int .i64 f) := fun p => p.ok.cell 0 rfl
            have y1 : ∀ p : At S, p.w.cell? ⟨w.heap.size, 1, none⟩ = some (.int .i64 rp) := fun p => p.ok.cell 1 rfl
            have y2 : ∀ p : At S, p.w.cell? ⟨w.heap.size, 2, none⟩ = some (.bool h) := fun p => p.ok.cell 2 rfl
            have y3 : ∀ p : At S, p.w.cell? ⟨w.heap.size, 3, none⟩ = some (.bool si) := fun p => p.ok.cell 3 rfl
            have y4 : ∀ p : At S, p.w.cell? ⟨w.heap.size, 4, none⟩ = some (.bool op) := fun p => p.ok.cell 4 rfl
            have hA : ∀ (p : At S) o o' w', w' = (p.w.alloc o).alloc o' → S w' := fun p o o' w' h => h ▸ (p.ok.alloc o).alloc o'
            have hs' : S wr.drew := hs
            have hfin : ∀ p : At S, Keeps w.heap.size w w.heap.size 25 #[.int .i64 f, .int .i64 rp, .bool h, .bool si, .bool op] p.w := fun p => p.ok
            have FIN := Lib.hid hfin
            clear hfin hs g0 g1 g2
            clear_value S
            have i1 : (0 : Int) ≤ (k : Int) := by omega
            have i2 : (k : Int) < (len0 : Int) := by omega
            have three : A = false ∨ (A = true ∧ ¬ a4 ≤ p0) ∨ (A = true ∧ a4 ≤ p0 ∧ ¬ p0 < a) := by
              cases A
              · exact .inl rfl
              · by_cases h1 : a4 ≤ p0
                · exact .inr (.inr ⟨rfl, h1, fun h2 => nk ⟨rfl, h1, h2⟩⟩)
                · exact .inr (.inl ⟨rfl, h1⟩)
            clear nk
            rcases three with h1 | ⟨h1, h2⟩ | ⟨h1, h2, h3⟩
            all_goals
              subst h1
              first
                | (have z1 : decide (a4 ≤ p0) = false := decide_eq_false h2; clear h2)
                | (have z1 : decide (a4 ≤ p0) = true := decide_eq_true h2; have z2 : decide (p0 < a) = false := decide_eq_false h3; clear h2 h3)
                | skip
              go_wp2_with fail
              refine wp_region_at S (by kernel_rfl) (by kernel_rfl) hs' ?_
              repeat go_big_quiet_step (with_reducible exact Calls.at_of (AC.out _) fun e w' h => ⟨h.1, hA _ _ _ _ h.2⟩)
              refine wpQuiet_nil ?_
              rintro _ ⟨p, rfl⟩
              have f3 := FIN.out p
              go_wp2_with fail
              go_roundw
              case rel => exact ⟨k + 1, by omega, by go_num, f3⟩
              case measure => simp [intOf]; omega
          · have f3 := hK.bel
            go_wp2_with fail
            go_ret
            exact ⟨rfl, f3⟩
end Go.Proofs.Ytbnamogpacncgaa

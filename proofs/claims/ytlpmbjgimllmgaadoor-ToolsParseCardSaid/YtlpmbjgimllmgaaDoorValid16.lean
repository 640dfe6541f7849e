/-
  tools.Valid and cncref16.Valid: whether a table is valid. Any table.
-/
import Derived.Test.YtlpmbjgimllmgaaDoorTool16
namespace Go.Proofs.YtlpmbjgimllmgaaDoor
open Go Go.RowKit
set_option linter.unusedVariables false

set_option maxRecDepth 100000 in
set_option maxHeartbeats 1000000 in
theorem valid_any (a : Option Addr) (c : Nat) (l : List To) (w : World) (h : TosAt w a l) (hn : l.length ≤ 9223372036854775807) :
    Calls Tryd.prog 14 #[.slice a l.length c] w fun e w' => e = .returned (.bool (validT l)) ∧ Below w.heap.size w w' := by
  obtain ⟨n, hln⟩ : ∃ n, l.length = n := ⟨_, rfl⟩
  by_cases h32 : 32 < n
  · have d1 : decide (32 < n) = true := by simpa using h32
    have d1' : decide (32 < (n : Int)) = true := by simp; omega
    have R : validT l = false := by unfold validT; rw [hln, decide_eq_false (by omega)]; rfl
    have R := Lib.hid R
    rw [hln]
    clear hln hn h32 h
    go_enter Tryd.func14, Tryd.ntmps14
    go_wp2
    go_ret
    exact ⟨by rw [R.out]; rfl, Below.refl _ _⟩
  · have d1 : decide (32 < n) = false := by simpa using h32
    have d1' : decide (32 < (n : Int)) = false := by simp; omega
    have R : validT l = l.all toGood := by unfold validT; rw [hln, decide_eq_true (by omega)]; rfl
    have R := Lib.hid R
    have HG := Lib.hid (fun k (hk : k < n) => (⟨l[k]'(by omega), List.getElem?_eq_getElem _⟩ : ∃ x, l[k]? = some x))
    have HLN := Lib.hid hln
    have H := Lib.hid h
    rw [hln]
    clear hln hn h
    go_enter Tryd.func14, Tryd.ntmps14
    go_wp2
    go_loopw [10] (fun s10 wr => ∃ k : Nat, k ≤ n ∧ s10 = .int .i64 k ∧ l.all toGood = (l.drop k).all toGood ∧ Below w.heap.size w wr)
      (fun s10 _ => n - (intOf s10).toNat)
    case atStart => exact ⟨0, by omega, rfl, by rw [List.drop_zero], Below.refl _ _⟩
    case round =>
      obtain ⟨k, hk, rfl, hv, bel⟩ := hrel
      have hsz := bel.size
      by_cases hlt : k < n
      · obtain ⟨x, hx⟩ := HG.out k hlt
        have e1 : decide (k < n) = true := by simpa using hlt
        have hst := all_drop hx
        rw [← hv] at hst
        obtain ⟨b, o, rfl, _, hc⟩ := H.out.below bel k x hx
        obtain ⟨x1, x2, x3, x4⟩ := x
        have c0 := hc 0 _ rfl
        have c1 := hc 1 _ rfl
        have c2 := hc 2 _ rfl
        have c3 := hc 3 _ rfl
        simp only [Nat.add_zero] at c0 c1 c2 c3
        have i1 : (0 : Int) ≤ (k : Int) := by omega
        have i2 : (k : Int) < (n : Int) := by omega
        have BEL := Lib.hid (bel.alloc (by omega) (.cells #[.int .i64 x1, .int .i64 x2, .int .i64 x3, .int .i64 x4] 29))
        have KG := good_any x1 x2 x3 x4 (wr.alloc (.cells #[.int .i64 x1, .int .i64 x2, .int .i64 x3, .int .i64 x4] 29))
        cases hg : toGood ⟨x1, x2, x3, x4⟩
        · rw [hg, Bool.false_and] at hst
          rw [hg] at KG
          have KG := Lib.hid KG
          have R2 := Lib.hid (R.out.trans hst)
          clear hg hst hv hx hc bel
          go_wp2_with fail
          refine KG.out.mono ?_
          rintro e w2 ⟨rfl, b2⟩
          go_wp2_with fail
          go_ret
          exact ⟨by rw [R2.out]; rfl, BEL.out.trans (b2.mono (by simp; omega))⟩
        · rw [hg, Bool.true_and] at hst
          rw [hg] at KG
          have KG := Lib.hid KG
          have HST := Lib.hid hst
          clear hg hst hv hx hc bel
          go_wp2_with fail
          refine KG.out.mono ?_
          rintro e w2 ⟨rfl, b2⟩
          have BEL2 := Lib.hid (BEL.out.trans (b2.mono (by simp; omega)))
          clear b2 KG
          go_wp2_with fail
          go_roundw
          case rel => exact ⟨k + 1, by omega, by go_num, HST.out, BEL2.out⟩
          case measure => simp [intOf]; omega
      · obtain rfl : k = n := by omega
        have e1 : decide (k < k) = false := by simp
        rw [all_end (by have := HLN.out; omega)] at hv
        have R2 := Lib.hid (R.out.trans hv)
        clear hv
        go_wp2_with fail
        go_ret
        exact ⟨by rw [R2.out]; rfl, bel⟩
theorem decF {p : Prop} [Decidable p] (h : ¬ p) : decide p = false := decide_eq_false h
set_option maxRecDepth 100000 in
set_option maxHeartbeats 2000000 in
theorem rvalid_any (a : Option Addr) (c : Nat) (l : List To) (w : World) (h : TosAt w a l) (hn : l.length ≤ 9223372036854775806) :
    Calls Tryd.prog 15 #[.slice a l.length c] w fun e w' => e = .returned (.bool (validT l)) ∧ Below w.heap.size w w' := by
  obtain ⟨n, hln⟩ : ∃ n, l.length = n := ⟨_, rfl⟩
  have R : validT l = (decide (n ≤ 32) && l.all toGood) := by unfold validT; rw [hln]
  have R := Lib.hid R
  have HG := Lib.hid (fun k (hk : k < n) => (⟨l[k]'(by omega), List.getElem?_eq_getElem _⟩ : ∃ x, l[k]? = some x))
  have HLN := Lib.hid hln
  have H := Lib.hid h
  rw [hln] at hn ⊢
  clear hln h
  go_enter Tryd.func15, Tryd.ntmps15
  go_wp2
  go_loopw [3] (fun s3 wr => ∃ k : Nat, k ≤ n ∧ s3 = .int .i64 k ∧ l.all toGood = (l.drop k).all toGood ∧ Below w.heap.size w wr)
    (fun s3 _ => n - (intOf s3).toNat)
  case atStart => exact ⟨0, by omega, rfl, by rw [List.drop_zero], Below.refl _ _⟩
  case round =>
    obtain ⟨k, hk, rfl, hv, bel⟩ := hrel
    have hsz := bel.size
    by_cases hlt : k < n
    · obtain ⟨x, hx⟩ := HG.out k hlt
      have e1 : decide (k < n) = true := by simpa using hlt
      have hst := all_drop hx
      rw [← hv] at hst
      obtain ⟨b, o, rfl, _, hc⟩ := H.out.below bel k x hx
      obtain ⟨x1, x2, x3, x4⟩ := x
      have c0 := hc 0 _ rfl
      have c1 := hc 1 _ rfl
      have c2 := hc 2 _ rfl
      have c3 := hc 3 _ rfl
      simp only [Nat.add_zero] at c0 c1 c2 c3
      have i1 : (0 : Int) ≤ (k : Int) := by omega
      have i2 : (k : Int) < (n : Int) := by omega
      by_cases hg : toGood ⟨x1, x2, x3, x4⟩ = true
      · obtain ⟨p1, p2, p3, p4, p5, p6, p7, p8⟩ := (toGood_iff _).1 hg
        rw [hg, Bool.true_and] at hst
        have HST := Lib.hid hst
        have BEL := Lib.hid (bel.alloc (by omega) (.cells #[.int .i64 x1, .int .i64 x2, .int .i64 x3, .int .i64 x4] 29))
        simp only at p1 p2 p3 p4 p5 p6 p7 p8
        have hb : (-1048576 ≤ x1 ∧ x1 ≤ 1048576) ∧ (-1048576 ≤ x2 ∧ x2 ≤ 1048576) ∧ (-1048576 ≤ x3 ∧ x3 ≤ 1048576) ∧ (-1048576 ≤ x4 ∧ x4 ≤ 1048576) := ⟨p1, p2, p3, p4⟩
        have q1 : decide (inC x1) = true := decide_eq_true p1
        have q2 : decide (inC x2) = true := decide_eq_true p2
        have q3 : decide (inC x3) = true := decide_eq_true p3
        have q4 : decide (inC x4) = true := decide_eq_true p4
        have q5 : decide (x1 + x2 < 0) = false := decide_eq_false (by omega)
        have q6 : decide (1048576 < x1 + x2) = false := decide_eq_false (by omega)
        have q7 : decide (x3 + x4 < 0) = false := decide_eq_false (by omega)
        have q8 : decide (32768 < x3 + x4) = false := decide_eq_false (by omega)
        clear hst hv hx hc bel hg p1 p2 p3 p4
        go_wp2_with (go_at_call 30; refine (in_any _ _).mono ?_; rintro e w' ⟨rfl, rfl⟩)
        go_quiet (fail)
        go_wp2_with fail
        go_roundw
        case rel => exact ⟨k + 1, by omega, by go_num, HST.out, below_drewN BEL.out _⟩
        case measure => simp [intOf]; omega
      · have hg := Bool.eq_false_iff.2 hg
        rw [hg, Bool.false_and] at hst
        have R2 := R.out
        rw [hst, Bool.and_false] at R2
        have R2 := Lib.hid R2
        by_cases p1 : inC x1
        · have q1 : decide (inC x1) = true := decide_eq_true p1
          by_cases p2 : inC x2
          · have q2 : decide (inC x2) = true := decide_eq_true p2
            by_cases p3 : inC x3
            · have q3 : decide (inC x3) = true := decide_eq_true p3
              by_cases p4 : inC x4
              · have q4 : decide (inC x4) = true := decide_eq_true p4
                rw [good_iff ⟨p1, p2, p3, p4⟩] at hg
                simp only at hg
                have hb : (-1048576 ≤ x1 ∧ x1 ≤ 1048576) ∧ (-1048576 ≤ x2 ∧ x2 ≤ 1048576) ∧ (-1048576 ≤ x3 ∧ x3 ≤ 1048576) ∧ (-1048576 ≤ x4 ∧ x4 ≤ 1048576) := ⟨p1, p2, p3, p4⟩
                have hcase : (decide (x1 + x2 < 0) = true) ∨ (decide (x1 + x2 < 0) = false ∧ decide (1048576 < x1 + x2) = true) ∨ (decide (x1 + x2 < 0) = false ∧ decide (1048576 < x1 + x2) = false ∧ decide (x3 + x4 < 0) = true) ∨ (decide (x1 + x2 < 0) = false ∧ decide (1048576 < x1 + x2) = false ∧ decide (x3 + x4 < 0) = false ∧ decide (32768 < x3 + x4) = true) := by
                  simp only [decide_eq_true_eq, decide_eq_false_iff_not]
                  have hg2 : ¬ (0 ≤ x1 + x2 ∧ x1 + x2 ≤ 1048576 ∧ 0 ≤ x3 + x4 ∧ x3 + x4 ≤ 32768) := fun h => by
                    rw [decide_eq_true h.1, decide_eq_true h.2.1, decide_eq_true h.2.2.1, decide_eq_true h.2.2.2] at hg
                    cases hg
                  omega
                have BEL := Lib.hid (bel.alloc (by omega) (.cells #[.int .i64 x1, .int .i64 x2, .int .i64 x3, .int .i64 x4] 29))
                clear hst hv hx hc bel hg p1 p2 p3 p4
                rcases hcase with d1 | ⟨d1, d2⟩ | ⟨d1, d2, d3⟩ | ⟨d1, d2, d3, d4⟩
                all_goals
                  go_wp2_with (go_at_call 30; refine (in_any _ _).mono ?_; rintro e w' ⟨rfl, rfl⟩)
                  go_quiet (fail)
                  go_wp2_with fail
                  go_ret
                  exact ⟨by rw [R2.out]; rfl, below_drewN BEL.out _⟩
              · have q4 := decF p4
                all_goals
                  have BEL := Lib.hid (bel.alloc (by omega) (.cells #[.int .i64 x1, .int .i64 x2, .int .i64 x3, .int .i64 x4] 29))
                  clear hst hv hx hc bel hg
                  go_wp2_with (go_at_call 30; refine (in_any _ _).mono ?_; rintro e w' ⟨rfl, rfl⟩)
                  go_ret
                  exact ⟨by rw [R2.out]; rfl, BEL.out⟩
            · have q3 := decF p3
              all_goals
                have BEL := Lib.hid (bel.alloc (by omega) (.cells #[.int .i64 x1, .int .i64 x2, .int .i64 x3, .int .i64 x4] 29))
                clear hst hv hx hc bel hg
                go_wp2_with (go_at_call 30; refine (in_any _ _).mono ?_; rintro e w' ⟨rfl, rfl⟩)
                go_ret
                exact ⟨by rw [R2.out]; rfl, BEL.out⟩
          · have q2 := decF p2
            all_goals
              have BEL := Lib.hid (bel.alloc (by omega) (.cells #[.int .i64 x1, .int .i64 x2, .int .i64 x3, .int .i64 x4] 29))
              clear hst hv hx hc bel hg
              go_wp2_with (go_at_call 30; refine (in_any _ _).mono ?_; rintro e w' ⟨rfl, rfl⟩)
              go_ret
              exact ⟨by rw [R2.out]; rfl, BEL.out⟩
        · have q1 := decF p1
          all_goals
            have BEL := Lib.hid (bel.alloc (by omega) (.cells #[.int .i64 x1, .int .i64 x2, .int .i64 x3, .int .i64 x4] 29))
            clear hst hv hx hc bel hg
            go_wp2_with (go_at_call 30; refine (in_any _ _).mono ?_; rintro e w' ⟨rfl, rfl⟩)
            go_ret
            exact ⟨by rw [R2.out]; rfl, BEL.out⟩
    · obtain rfl : k = n := by omega
      have e1 : decide (k < k) = false := by simp
      have e1' : decide ((k : Int) < (k : Int)) = false := by simp
      rw [all_end (by have := HLN.out; omega)] at hv
      have R2 := R.out
      rw [hv, Bool.and_true] at R2
      clear hv
      by_cases h32 : k ≤ 32
      · have d1 : decide (k ≤ 32) = true := decide_eq_true h32
        have d1' : decide ((k : Int) ≤ 32) = true := decide_eq_true (by omega)
        rw [d1] at R2
        have R2 := Lib.hid R2
        go_wp2_with fail
        go_ret
        exact ⟨by rw [R2.out]; rfl, bel⟩
      · have d1 : decide (k ≤ 32) = false := decide_eq_false h32
        have d1' : decide ((k : Int) ≤ 32) = false := decide_eq_false (by omega)
        rw [d1] at R2
        have R2 := Lib.hid R2
        go_wp2_with fail
        go_ret
        exact ⟨by rw [R2.out]; rfl, bel⟩
end Go.Proofs.YtlpmbjgimllmgaaDoor

/-
  cncref33.number: the number that a word stands for. Any word.
-/
import Derived.Test.YtkafmpgihhnhdaaDoorNum33
namespace Go.Proofs.YtkafmpgihhnhdaaDoor
open Go Go.RowKit
set_option linter.unusedVariables false
attribute [local go_sem ↓] ix_run ix0_run

theorem one48 {s : ByteArray} (h1 : s.size = 1) (h : byt s 0 = 48) : bl s = [48] := by
  obtain ⟨c, e1, e2⟩ := drop_byt s 0 (by omega)
  rw [List.drop_zero, List.drop_eq_nil_of_le (by rw [bl_len]; omega)] at e1
  rw [e1]
  congr 1
  exact UInt8.toNat_inj.1 (by simpa using (by omega : c.toNat = 48))
set_option maxRecDepth 100000 in
set_option maxHeartbeats 1000000 in
theorem rnumber_any (s : ByteArray) (hs : s.size ≤ 1000000) (w : World) : Calls Tryd.prog 34 #[.string s] w fun e w' => e = .returned (numV (numF (bl s))) ∧ Below w.heap.size w w' := by
  obtain ⟨D, hD⟩ : ∃ D, mkB (digsF (bl s)) = D := ⟨_, rfl⟩
  have hbD : bl D = digsF (bl s) := by rw [← hD, bl_mkB]
  have hszD : (digsF (bl s)).length = D.size := by rw [← hbD, bl_len]
  have hle : D.size ≤ s.size := by rw [← hszD, ← bl_len s]; exact digs_le _
  clear hD
  have way : (0 < s.size ∧ byt s 0 = 45 ∧ negB (bl s) = true ∧ s.extract 1 s.size = D ∧ bl s ≠ [48]) ∨ (negB (bl s) = false ∧ s = D ∧ (s.size = 0 ∨ (0 < s.size ∧ byt s 0 ≠ 45))) := by
    by_cases h0 : 0 < s.size
    · have hn := neg_byt h0
      by_cases h45 : byt s 0 = 45
      · rw [eqB h45] at hn
        refine .inl ⟨h0, h45, hn, bl_inj ?_, fun e => by rw [e] at hn; cases hn⟩
        rw [hbD, bl_extract, List.take_of_length_le (by rw [List.length_drop, bl_len]; omega)]
        unfold digsF
        rw [if_pos hn]
      · rw [neB h45] at hn
        refine .inr ⟨hn, bl_inj ?_, .inr ⟨h0, h45⟩⟩
        rw [hbD]
        unfold digsF
        rw [if_neg (by rw [hn]; decide)]
    · have e : bl s = [] := List.length_eq_zero_iff.1 (by rw [bl_len]; omega)
      refine .inr ⟨by rw [e]; rfl, bl_inj (by rw [hbD, e]; rfl), .inl (by omega)⟩
  have WAY := Lib.hid way
  clear way
  by_cases h0 : D.size = 0
  · have R := Lib.hid (num_none (form_no0 (l := bl s) (by omega)))
    have d0 : (D.size == 0) = true := by simpa using h0
    have d0' : ((D.size : Int) == 0) = true := by simpa using h0
    clear hbD hszD
    rcases WAY.out with ⟨z0, z1, z2, z3, z4⟩ | ⟨z2, z3, z4⟩
    · have y0 : decide (0 < s.size) = true := by simpa using z0
      have y0' : decide (0 < (s.size : Int)) = true := by simp; omega
      have y1 := eqB z1
      have y2 : (1 : Int) ≤ (s.size : Int) := by omega
      clear z1 z2 z4 WAY
      go_enter Tryd.func34, Tryd.ntmps34
      go_wp2_with fail
      refine region_L (fun _ => True) [] (by kernel_rfl) ?_
      refine take_P 0 (v := .string s) rfl (by kernel_rfl) (by kernel_rfl) (by kernel_rfl) (fun _ _ _ h => h) rfl (fun W' => by go_simp) ?_
      refine take_P 1 (v := .string (s.extract 1 s.size)) rfl (by kernel_rfl) (by kernel_rfl) (by kernel_rfl) (fun _ _ _ h => h) rfl (fun W' => by go_simp) ?_
      refine take_P 2 (v := .int .i64 (-1)) rfl (by kernel_rfl) (by kernel_rfl) (by kernel_rfl) (fun _ _ _ h => h) rfl (fun W' => by go_simp) ?_
      refine take_P 3 (v := .string (s.extract 1 s.size)) rfl (by kernel_rfl) (by kernel_rfl) (by kernel_rfl) (fun _ _ _ h => h) rfl (fun W' => by go_simp) ?_
      refine done_L (by kernel_rfl) ?_ _
      simp only [z3]
      go_simp
      go_wp2_with fail
      go_ret2
      exact ⟨by rw [R.out]; rfl, below_drewN (Below.refl _ _) 1⟩
    · subst z3
      have y0 : decide (0 < s.size) = false := decide_eq_false (by omega)
      have y0' : decide (0 < (s.size : Int)) = false := decide_eq_false (by omega)
      clear z2 z4 WAY
      go_enter Tryd.func34, Tryd.ntmps34
      go_wp2_with fail
      go_ret2
      exact ⟨by rw [R.out]; rfl, Below.refl _ _⟩
  · have d0 : (D.size == 0) = false := by simpa using h0
    have d0' : ((D.size : Int) == 0) = false := by simpa using h0
    by_cases h10 : 10 < D.size
    · have R := Lib.hid (num_none (form_no10 (l := bl s) (by omega)))
      have d1 : decide (10 < D.size) = true := by simpa using h10
      have d1' : decide (10 < (D.size : Int)) = true := by simp; omega
      clear hbD hszD
      rcases WAY.out with ⟨z0, z1, z2, z3, z4⟩ | ⟨z2, z3, z4⟩
      · skip
        have y0 : decide (0 < s.size) = true := by simpa using z0
        have y0' : decide (0 < (s.size : Int)) = true := by simp; omega
        have y1 := eqB z1
        have y2 : (1 : Int) ≤ (s.size : Int) := by omega
        clear z1 z4 WAY
        clear h0 h10 hle z2
        go_enter Tryd.func34, Tryd.ntmps34
        go_wp2_with fail
        refine region_L (fun _ => True) [] (by kernel_rfl) ?_
        refine take_P 0 (v := .string s) rfl (by kernel_rfl) (by kernel_rfl) (by kernel_rfl) (fun _ _ _ h => h) rfl (fun W' => by go_simp) ?_
        refine take_P 1 (v := .string (s.extract 1 s.size)) rfl (by kernel_rfl) (by kernel_rfl) (by kernel_rfl) (fun _ _ _ h => h) rfl (fun W' => by go_simp) ?_
        refine take_P 2 (v := .int .i64 (-1)) rfl (by kernel_rfl) (by kernel_rfl) (by kernel_rfl) (fun _ _ _ h => h) rfl (fun W' => by go_simp) ?_
        refine take_P 3 (v := .string (s.extract 1 s.size)) rfl (by kernel_rfl) (by kernel_rfl) (by kernel_rfl) (fun _ _ _ h => h) rfl (fun W' => by go_simp) ?_
        refine done_L (by kernel_rfl) ?_ _
        simp only [z3]
        go_simp
        go_wp2_with fail
        go_ret2
        exact ⟨by rw [R.out]; rfl, below_drewN (Below.refl _ _) 1⟩
      · skip
        have z3 := z3.symm
        subst z3
        have y3 : 0 < D.size := by omega
        have y0 : decide (0 < D.size) = true := decide_eq_true (by omega)
        have y0' : decide (0 < (D.size : Int)) = true := decide_eq_true (by omega)
        have y1 : (byt D 0 == 45) = false := neB (z4.resolve_left (by omega)).2
        clear z4 WAY
        clear h0 h10 hle z2
        go_enter Tryd.func34, Tryd.ntmps34
        go_wp2_with fail
        go_ret2
        exact ⟨by rw [R.out]; rfl, Below.refl _ _⟩
    · have d1 : decide (10 < D.size) = false := by simpa using h10
      have d1' : decide (10 < (D.size : Int)) = false := by simp; omega
      have i0 : (0 : Int) < (D.size : Int) := by omega
      have j0 : 0 < D.size := by omega
      have hh := head48 (s := D) j0
      have hD10 : D.size ≤ 10 := by omega
      by_cases h48 : byt D 0 = 48
      · have t48 := eqB h48
        rcases WAY.out with ⟨z0, z1, z2, z3, z4⟩ | ⟨z2, z3, z4⟩
        · have R := Lib.hid (num_none (form_no48 (l := bl s) (by rw [← hbD]; exact hh.2 h48) z4))
          have y0 : decide (0 < s.size) = true := by simpa using z0
          have y0' : decide (0 < (s.size : Int)) = true := by simp; omega
          have y1 := eqB z1
          have y2 : (1 : Int) ≤ (s.size : Int) := by omega
          clear z1 z4 WAY
          clear h0 h10 hle z2 hh h48 hbD hszD
          by_cases h1 : 1 < D.size
          · have u1 : decide (1 < D.size) = true := by simpa using h1
            have u1' : decide (1 < (D.size : Int)) = true := decide_eq_true (by omega)
            go_enter Tryd.func34, Tryd.ntmps34
            go_wp2_with fail
            refine region_L (fun _ => True) [] (by kernel_rfl) ?_
            refine take_P 0 (v := .string s) rfl (by kernel_rfl) (by kernel_rfl) (by kernel_rfl) (fun _ _ _ h => h) rfl (fun W' => by go_simp) ?_
            refine take_P 1 (v := .string (s.extract 1 s.size)) rfl (by kernel_rfl) (by kernel_rfl) (by kernel_rfl) (fun _ _ _ h => h) rfl (fun W' => by go_simp) ?_
            refine take_P 2 (v := .int .i64 (-1)) rfl (by kernel_rfl) (by kernel_rfl) (by kernel_rfl) (fun _ _ _ h => h) rfl (fun W' => by go_simp) ?_
            refine take_P 3 (v := .string (s.extract 1 s.size)) rfl (by kernel_rfl) (by kernel_rfl) (by kernel_rfl) (fun _ _ _ h => h) rfl (fun W' => by go_simp) ?_
            refine done_L (by kernel_rfl) ?_ _
            simp only [z3]
            go_simp
            go_wp2_with fail
            go_ret2
            exact ⟨by rw [R.out]; rfl, below_drewN (Below.refl _ _) 1⟩
          · have u1 : decide (1 < D.size) = false := by simpa using h1
            have u1' : decide (1 < (D.size : Int)) = false := decide_eq_false (by omega)
            go_enter Tryd.func34, Tryd.ntmps34
            go_wp2_with fail
            refine region_L (fun _ => True) [] (by kernel_rfl) ?_
            refine take_P 0 (v := .string s) rfl (by kernel_rfl) (by kernel_rfl) (by kernel_rfl) (fun _ _ _ h => h) rfl (fun W' => by go_simp) ?_
            refine take_P 1 (v := .string (s.extract 1 s.size)) rfl (by kernel_rfl) (by kernel_rfl) (by kernel_rfl) (fun _ _ _ h => h) rfl (fun W' => by go_simp) ?_
            refine take_P 2 (v := .int .i64 (-1)) rfl (by kernel_rfl) (by kernel_rfl) (by kernel_rfl) (fun _ _ _ h => h) rfl (fun W' => by go_simp) ?_
            refine take_P 3 (v := .string (s.extract 1 s.size)) rfl (by kernel_rfl) (by kernel_rfl) (by kernel_rfl) (fun _ _ _ h => h) rfl (fun W' => by go_simp) ?_
            refine done_L (by kernel_rfl) ?_ _
            simp only [z3]
            go_simp
            go_wp2_with fail
            go_ret2
            exact ⟨by rw [R.out]; rfl, below_drewN (Below.refl _ _) 1⟩
        · by_cases h1 : 1 < D.size
          · have hn : bl s ≠ [48] := fun e => by
              have := congrArg List.length e
              rw [bl_len, z3] at this
              simp at this
              omega
            have R := Lib.hid (num_none (form_no48 (l := bl s) (by rw [← hbD]; exact hh.2 h48) hn))
            have u1 : decide (1 < D.size) = true := by simpa using h1
            have u1' : decide (1 < (D.size : Int)) = true := decide_eq_true (by omega)
            have z3 := z3.symm
            subst z3
            have y3 : 0 < D.size := by omega
            have y0 : decide (0 < D.size) = true := decide_eq_true (by omega)
            have y0' : decide (0 < (D.size : Int)) = true := decide_eq_true (by omega)
            have y1 : (byt D 0 == 45) = false := neB (z4.resolve_left (by omega)).2
            clear z4 WAY
            clear h0 h10 hle z2 hh h48 hbD hszD hn h1
            go_enter Tryd.func34, Tryd.ntmps34
            go_wp2_with fail
            go_ret2
            exact ⟨by rw [R.out]; rfl, Below.refl _ _⟩
          · have hs48 : bl s = [48] := by rw [z3]; exact one48 (by omega) h48
            have HFM := Lib.hid (form_yes (l := bl s) (by omega) (by omega) fun _ => hs48)
            have u1 : decide (1 < D.size) = false := by simpa using h1
            have u1' : decide (1 < (D.size : Int)) = false := decide_eq_false (by omega)
            have z3 := z3.symm
            subst z3
            have y3 : 0 < D.size := by omega
            have y0 : decide (0 < D.size) = true := decide_eq_true (by omega)
            have y0' : decide (0 < (D.size : Int)) = true := decide_eq_true (by omega)
            have y1 : (byt D 0 == 45) = false := neB (z4.resolve_left (by omega)).2
            clear z4 WAY
            have HSGN := Lib.hid z2
            have hg := HFM.out
            have R := num_some hg
            rw [← hbD, z2] at R
            have R := Lib.hid R
            obtain ⟨w1, hw1⟩ : ∃ w1, w = w1 := ⟨_, rfl⟩
            have BEL : Below w.heap.size w w1 := by rw [← hw1]; exact Below.refl _ _
            have BEL := Lib.hid BEL
            clear hbD hszD hle h0 h10 hg HFM z2
            clear hh h48 hs48 h1
            go_enter Tryd.func34, Tryd.ntmps34
            go_wp2_with fail
            try rw [hw1]
            clear hw1
            go_loopw [5, 6] (fun s5 s6 wr => ∃ (i : Nat) (n : Int), i ≤ D.size ∧ s5 = .int .i64 n ∧ s6 = .int .i64 i ∧ 0 ≤ n ∧ n < 10 ^ i ∧ scanD (bl D) 0 = scanD ((bl D).drop i) n ∧ w1 = wr)
              (fun _ s6 _ => D.size - (intOf s6).toNat)
            case atStart => exact ⟨0, 0, by omega, rfl, rfl, by omega, by decide, by rw [List.drop_zero], rfl⟩
            case round =>
              obtain ⟨i, n, hi, rfl, rfl, hn0, hn1, hsc, rfl⟩ := hrel
              have k0 : (0 : Int) ≤ (i : Int) := by omega
              have hp : (10 : Int) ^ i ≤ 10000000000 := by
                have := Nat.pow_le_pow_right (n := 10) (by omega) (show i ≤ 10 by omega)
                have e : ((10 ^ i : Nat) : Int) = (10 : Int) ^ i := by push_cast; rfl
                omega
              by_cases hlt : i < D.size
              · have e1 : decide (i < D.size) = true := by simpa using hlt
                have hcb := byt_bd D i
                have hst := scanD_drop (n := n) hlt
                rw [← hsc] at hst
                by_cases hdg : digB (byt D i) = true
                · rw [if_pos hdg] at hst
                  have HST := Lib.hid hst
                  have hb2 : 48 ≤ byt D i ∧ byt D i ≤ 57 := of_decide_eq_true hdg
                  obtain ⟨hb3, hb4⟩ := hb2
                  have c1 : decide (byt D i < 48) = false := by simp; omega
                  have c2 : decide (57 < byt D i) = false := by simp; omega
                  have hn2 : 10 * n + (byt D i - 48) < 10 ^ (i + 1) := by rw [Int.pow_succ]; omega
                  have HN := Lib.hid hn2
                  clear hsc hdg hst hn2
                  go_wp2_with fail
                  go_roundw
                  case rel => exact ⟨i + 1, 10 * n + (byt D i - 48), by omega, by go_num, by go_num, by omega, HN.out, HST.out, trivial⟩
                  case measure => simp [intOf]; omega
                · rw [if_neg hdg] at hst
                  have R2 := R.out
                  rw [hst, Option.map_none] at R2
                  have R2 := Lib.hid R2
                  have hb2 : decide (byt D i < 48) = true ∨ (decide (byt D i < 48) = false ∧ decide (57 < byt D i) = true) := by
                    unfold digB at hdg
                    simp at hdg ⊢
                    omega
                  clear hsc hdg hst
                  rcases hb2 with c1 | ⟨c1, c2⟩
                  all_goals
                    go_wp2_with fail
                    go_ret2
                    exact ⟨by rw [R2.out]; rfl, BEL.out⟩
              · obtain rfl : i = D.size := by omega
                have e1 : decide (D.size < D.size) = false := by simp
                rw [scanD_end (Nat.le_refl _)] at hsc
                have R2 := R.out
                rw [hsc, Option.map_some] at R2
                have R2 := Lib.hid R2
                clear hsc
                go_wp2_with fail
                go_ret2
                exact ⟨by rw [R2.out]; simp [numV], BEL.out⟩
      · have t48 := neB h48
        have HFM := Lib.hid (form_yes (l := bl s) (by omega) (by omega) fun e => absurd (hh.1 (by rw [hbD]; exact e)) h48)
        rcases WAY.out with ⟨z0, z1, z2, z3, z4⟩ | ⟨z2, z3, z4⟩
        · skip
          have y0 : decide (0 < s.size) = true := by simpa using z0
          have y0' : decide (0 < (s.size : Int)) = true := by simp; omega
          have y1 := eqB z1
          have y2 : (1 : Int) ≤ (s.size : Int) := by omega
          clear z1 z4 WAY
          have HSGN := Lib.hid z2
          have hg := HFM.out
          have R := num_some hg
          rw [← hbD, z2] at R
          have R := Lib.hid R
          obtain ⟨w1, hw1⟩ : ∃ w1, w.drew = w1 := ⟨_, rfl⟩
          have BEL : Below w.heap.size w w1 := by rw [← hw1]; exact below_drewN (Below.refl _ _) 1
          have BEL := Lib.hid BEL
          clear hbD hszD hle h0 h10 hg HFM z2
          clear hh h48
          go_enter Tryd.func34, Tryd.ntmps34
          go_wp2_with fail
          refine region_L (fun _ => True) [] (by kernel_rfl) ?_
          refine take_P 0 (v := .string s) rfl (by kernel_rfl) (by kernel_rfl) (by kernel_rfl) (fun _ _ _ h => h) rfl (fun W' => by go_simp) ?_
          refine take_P 1 (v := .string (s.extract 1 s.size)) rfl (by kernel_rfl) (by kernel_rfl) (by kernel_rfl) (fun _ _ _ h => h) rfl (fun W' => by go_simp) ?_
          refine take_P 2 (v := .int .i64 (-1)) rfl (by kernel_rfl) (by kernel_rfl) (by kernel_rfl) (fun _ _ _ h => h) rfl (fun W' => by go_simp) ?_
          refine take_P 3 (v := .string (s.extract 1 s.size)) rfl (by kernel_rfl) (by kernel_rfl) (by kernel_rfl) (fun _ _ _ h => h) rfl (fun W' => by go_simp) ?_
          refine done_L (by kernel_rfl) ?_ _
          simp only [z3]
          go_simp
          go_wp2_with fail
          try rw [hw1]
          clear hw1
          go_loopw [5, 6] (fun s5 s6 wr => ∃ (i : Nat) (n : Int), i ≤ D.size ∧ s5 = .int .i64 n ∧ s6 = .int .i64 i ∧ 0 ≤ n ∧ n < 10 ^ i ∧ scanD (bl D) 0 = scanD ((bl D).drop i) n ∧ w1 = wr)
            (fun _ s6 _ => D.size - (intOf s6).toNat)
          case atStart => exact ⟨0, 0, by omega, rfl, rfl, by omega, by decide, by rw [List.drop_zero], rfl⟩
          case round =>
            obtain ⟨i, n, hi, rfl, rfl, hn0, hn1, hsc, rfl⟩ := hrel
            have k0 : (0 : Int) ≤ (i : Int) := by omega
            have hp : (10 : Int) ^ i ≤ 10000000000 := by
              have := Nat.pow_le_pow_right (n := 10) (by omega) (show i ≤ 10 by omega)
              have e : ((10 ^ i : Nat) : Int) = (10 : Int) ^ i := by push_cast; rfl
              omega
            by_cases hlt : i < D.size
            · have e1 : decide (i < D.size) = true := by simpa using hlt
              have hcb := byt_bd D i
              have hst := scanD_drop (n := n) hlt
              rw [← hsc] at hst
              by_cases hdg : digB (byt D i) = true
              · rw [if_pos hdg] at hst
                have HST := Lib.hid hst
                have hb2 : 48 ≤ byt D i ∧ byt D i ≤ 57 := of_decide_eq_true hdg
                obtain ⟨hb3, hb4⟩ := hb2
                have c1 : decide (byt D i < 48) = false := by simp; omega
                have c2 : decide (57 < byt D i) = false := by simp; omega
                have hn2 : 10 * n + (byt D i - 48) < 10 ^ (i + 1) := by rw [Int.pow_succ]; omega
                have HN := Lib.hid hn2
                clear hsc hdg hst hn2
                go_wp2_with fail
                go_roundw
                case rel => exact ⟨i + 1, 10 * n + (byt D i - 48), by omega, by go_num, by go_num, by omega, HN.out, HST.out, trivial⟩
                case measure => simp [intOf]; omega
              · rw [if_neg hdg] at hst
                have R2 := R.out
                rw [hst, Option.map_none] at R2
                have R2 := Lib.hid R2
                have hb2 : decide (byt D i < 48) = true ∨ (decide (byt D i < 48) = false ∧ decide (57 < byt D i) = true) := by
                  unfold digB at hdg
                  simp at hdg ⊢
                  omega
                clear hsc hdg hst
                rcases hb2 with c1 | ⟨c1, c2⟩
                all_goals
                  go_wp2_with fail
                  go_ret2
                  exact ⟨by rw [R2.out]; rfl, BEL.out⟩
            · obtain rfl : i = D.size := by omega
              have e1 : decide (D.size < D.size) = false := by simp
              rw [scanD_end (Nat.le_refl _)] at hsc
              have R2 := R.out
              rw [hsc, Option.map_some] at R2
              have R2 := Lib.hid R2
              clear hsc
              go_wp2_with fail
              go_ret2
              exact ⟨by rw [R2.out]; simp [numV], BEL.out⟩
        · skip
          have z3 := z3.symm
          subst z3
          have y3 : 0 < D.size := by omega
          have y0 : decide (0 < D.size) = true := decide_eq_true (by omega)
          have y0' : decide (0 < (D.size : Int)) = true := decide_eq_true (by omega)
          have y1 : (byt D 0 == 45) = false := neB (z4.resolve_left (by omega)).2
          clear z4 WAY
          have HSGN := Lib.hid z2
          have hg := HFM.out
          have R := num_some hg
          rw [← hbD, z2] at R
          have R := Lib.hid R
          obtain ⟨w1, hw1⟩ : ∃ w1, w = w1 := ⟨_, rfl⟩
          have BEL : Below w.heap.size w w1 := by rw [← hw1]; exact Below.refl _ _
          have BEL := Lib.hid BEL
          clear hbD hszD hle h0 h10 hg HFM z2
          clear hh h48
          go_enter Tryd.func34, Tryd.ntmps34
          go_wp2_with fail
          try rw [hw1]
          clear hw1
          go_loopw [5, 6] (fun s5 s6 wr => ∃ (i : Nat) (n : Int), i ≤ D.size ∧ s5 = .int .i64 n ∧ s6 = .int .i64 i ∧ 0 ≤ n ∧ n < 10 ^ i ∧ scanD (bl D) 0 = scanD ((bl D).drop i) n ∧ w1 = wr)
            (fun _ s6 _ => D.size - (intOf s6).toNat)
          case atStart => exact ⟨0, 0, by omega, rfl, rfl, by omega, by decide, by rw [List.drop_zero], rfl⟩
          case round =>
            obtain ⟨i, n, hi, rfl, rfl, hn0, hn1, hsc, rfl⟩ := hrel
            have k0 : (0 : Int) ≤ (i : Int) := by omega
            have hp : (10 : Int) ^ i ≤ 10000000000 := by
              have := Nat.pow_le_pow_right (n := 10) (by omega) (show i ≤ 10 by omega)
              have e : ((10 ^ i : Nat) : Int) = (10 : Int) ^ i := by push_cast; rfl
              omega
            by_cases hlt : i < D.size
            · have e1 : decide (i < D.size) = true := by simpa using hlt
              have hcb := byt_bd D i
              have hst := scanD_drop (n := n) hlt
              rw [← hsc] at hst
              by_cases hdg : digB (byt D i) = true
              · rw [if_pos hdg] at hst
                have HST := Lib.hid hst
                have hb2 : 48 ≤ byt D i ∧ byt D i ≤ 57 := of_decide_eq_true hdg
                obtain ⟨hb3, hb4⟩ := hb2
                have c1 : decide (byt D i < 48) = false := by simp; omega
                have c2 : decide (57 < byt D i) = false := by simp; omega
                have hn2 : 10 * n + (byt D i - 48) < 10 ^ (i + 1) := by rw [Int.pow_succ]; omega
                have HN := Lib.hid hn2
                clear hsc hdg hst hn2
                go_wp2_with fail
                go_roundw
                case rel => exact ⟨i + 1, 10 * n + (byt D i - 48), by omega, by go_num, by go_num, by omega, HN.out, HST.out, trivial⟩
                case measure => simp [intOf]; omega
              · rw [if_neg hdg] at hst
                have R2 := R.out
                rw [hst, Option.map_none] at R2
                have R2 := Lib.hid R2
                have hb2 : decide (byt D i < 48) = true ∨ (decide (byt D i < 48) = false ∧ decide (57 < byt D i) = true) := by
                  unfold digB at hdg
                  simp at hdg ⊢
                  omega
                clear hsc hdg hst
                rcases hb2 with c1 | ⟨c1, c2⟩
                all_goals
                  go_wp2_with fail
                  go_ret2
                  exact ⟨by rw [R2.out]; rfl, BEL.out⟩
            · obtain rfl : i = D.size := by omega
              have e1 : decide (D.size < D.size) = false := by simp
              rw [scanD_end (Nat.le_refl _)] at hsc
              have R2 := R.out
              rw [hsc, Option.map_some] at R2
              have R2 := Lib.hid R2
              clear hsc
              go_wp2_with fail
              go_ret2
              exact ⟨by rw [R2.out]; simp [numV], BEL.out⟩
end Go.Proofs.YtkafmpgihhnhdaaDoor

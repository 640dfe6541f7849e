/-
  cncref16.Read: the coordinate that a word stands for. Any word.
-/
import Derived.Test.YtlpmbjgimllmgaaDoorWords16
import Derived.Test.YtlpmbjgimllmgaaDoorNumT16
namespace Go.Proofs.YtlpmbjgimllmgaaDoor
open Go Go.RowKit
set_option linter.unusedVariables false

attribute [local go_sem ↓] ix_run ix0_run
def readV (o : Option Int) : Value := .tuple #[.int .i64 (o.getD 0), .bool o.isSome]
theorem head_byt {s : ByteArray} {f : Nat} (h : f < s.size) (n : UInt8) : ((bl s).drop f).head? = some n ↔ byt s f = n.toNat := by
  obtain ⟨c, e1, e2⟩ := drop_byt s f h
  rw [e1, e2, List.head?_cons, Option.some.injEq]
  constructor
  · rintro rfl; rfl
  · intro e; exact UInt8.toNat_inj.1 (by omega)
theorem digs_drop {s : ByteArray} : (0 < s.size ∧ byt s 0 = 45 ∧ negB (bl s) = true ∧ digsF (bl s) = (bl s).drop 1) ∨ ((s.size = 0 ∨ (0 < s.size ∧ byt s 0 ≠ 45)) ∧ negB (bl s) = false ∧ digsF (bl s) = (bl s).drop 0) := by
  by_cases h0 : 0 < s.size
  · have hh := head_byt h0 45
    rw [List.drop_zero] at hh
    by_cases h45 : byt s 0 = 45
    · have hn : negB (bl s) = true := by unfold negB; rw [hh.2 h45]; rfl
      exact .inl ⟨h0, h45, hn, by unfold digsF; rw [if_pos hn]⟩
    · have hn : negB (bl s) = false := by
        unfold negB
        rw [beq_eq_false_iff_ne]
        exact fun e => h45 (hh.1 e)
      exact .inr ⟨.inr ⟨h0, h45⟩, hn, by unfold digsF; rw [if_neg (by rw [hn]; decide)]; rfl⟩
  · have e : bl s = [] := List.length_eq_zero_iff.1 (by rw [bl_len]; omega)
    exact .inr ⟨.inl (by omega), by rw [e]; rfl, by rw [e]; rfl⟩
set_option maxRecDepth 100000 in
set_option maxHeartbeats 2000000 in
theorem read_any (s : ByteArray) (hs : s.size ≤ 1000000) (w : World) : Calls Tryd.prog 38 #[.string s, .int .i64 1048576] w fun e w' => e = .returned (readV (readF (bl s))) ∧ w = w' := by
  rcases digs_drop (s := s) with ⟨h0, h45, hn, hd⟩ | ⟨h0, hn, hd⟩
  · have y0 : decide (0 < s.size) = true := decide_eq_true h0
    have y0' : decide (0 < (s.size : Int)) = true := decide_eq_true (by omega)
    have y1 := eqB h45
    have HD := Lib.hid hd
    have HNG := Lib.hid hn
    by_cases h1 : s.size = 1
    · have R := Lib.hid (read_form (l := bl s) (.inl (by rw [hd, List.drop_eq_nil_of_le (by rw [bl_len]; omega)])))
      have z1 : ((s.size : Int) == 1) = true := beq_iff_eq.2 (by omega)
      have z1' : (s.size == 1) = true := beq_iff_eq.2 h1
      clear h45 hn hd HD HNG h1
      go_enter Tryd.func38, Tryd.ntmps38
      go_wp2_with fail
      go_ret2
      exact ⟨by first | rfl | (rw [R.out]; rfl), rfl⟩
    · have z1 : ((s.size : Int) == 1) = false := beq_eq_false_iff_ne.2 (by omega)
      have z1' : (s.size == 1) = false := beq_eq_false_iff_ne.2 h1
      have hs2 : 1 < s.size := by omega
      have u1 : decide (1 < s.size) = true := decide_eq_true hs2
      have u1' : decide (1 < (s.size : Int)) = true := decide_eq_true (by omega)
      have x1 : (1 : Int) < (s.size : Int) := by omega
      have hix := ix_run s 1 hs2 w
      have hix : (Instr.index 9 (.string s) (.int .i64 1)).run Tryd.prog w = .ok (.int .u8 (byt s 1)) w := hix
      have hne : digsF (bl s) ≠ [] := by
        rw [hd]
        intro e
        have := congrArg List.length e
        rw [List.length_drop, bl_len] at this
        have h3 : s.size - 1 = 0 := this
        omega
      by_cases h48 : byt s 1 = 48
      · have t48 := eqB h48
        have R := Lib.hid (read_form (l := bl s) (.inr ⟨by rw [hd]; exact (head_byt hs2 48).2 h48, fun e => by have := congrArg List.length e; rw [bl_len] at this; have h3 : s.size = 1 := this; omega⟩))
        clear h45 hn hd HD HNG h1 h48 hne
        go_enter Tryd.func38, Tryd.ntmps38
        go_wp2_with fail
        go_ret2
        exact ⟨by first | rfl | (rw [R.out]; rfl), rfl⟩
      · have t48 := neB h48
        have HNE := Lib.hid hne
        have HHD := Lib.hid (fun h : (digsF (bl s)).head? = some 48 => (absurd ((head_byt hs2 48).1 (by rw [← hd]; exact h)) h48 : bl s = [48]))
        clear h45 hn hd h1 h48 hne
        go_enter Tryd.func38, Tryd.ntmps38
        go_wp2_with fail
        clear hix
        go_loopw [7, 8] (fun s7 s8 wr => ∃ (i : Nat) (n : Int), 1 ≤ i ∧ i ≤ s.size ∧ s7 = .int .i64 n ∧ s8 = .int .i64 i ∧ 0 ≤ n ∧ n ≤ 1048579 ∧ scanD (digsF (bl s)) 0 = scanD ((bl s).drop i) n ∧ w = wr)
          (fun _ s8 _ => s.size - (intOf s8).toNat)
        case atStart => exact ⟨1, 0, by omega, by omega, rfl, by rfl, by omega, by omega, by rw [HD.out], rfl⟩
        case round =>
          obtain ⟨i, n, hi0, hi, rfl, rfl, hn0, hn1, hsc, rfl⟩ := hrel
          have k0 : (0 : Int) ≤ (i : Int) := by omega
          by_cases hlt : i < s.size
          · have e1 : decide (i < s.size) = true := decide_eq_true hlt
            have e1' : decide ((i : Int) < (s.size : Int)) = true := decide_eq_true (by omega)
            have k1 : (i : Int) < (s.size : Int) := by omega
            have hcb := byt_bd s i
            have hst := scanD_drop (n := n) hlt
            rw [← hsc] at hst
            by_cases hdg : digB (byt s i) = true
            · rw [if_pos hdg] at hst
              have hb2 : 48 ≤ byt s i ∧ byt s i ≤ 57 := of_decide_eq_true hdg
              obtain ⟨hb3, hb4⟩ := hb2
              have c1 : decide (byt s i < 48) = false := decide_eq_false (by omega)
              have c2 : decide (57 < byt s i) = false := decide_eq_false (by omega)
              by_cases hgr : 104857 < n
              · have c3 : decide (104857 < n) = true := decide_eq_true hgr
                have R : readF (bl s) = none := by
                  cases hv : scanD (digsF (bl s)) 0 with
                  | none => exact read_none hv
                  | some v =>
                    refine read_big hv (scan_great hgr ?_ (hsc ▸ hv))
                    intro e
                    have := congrArg List.length e
                    rw [List.length_drop, bl_len] at this
                    simp at this
                    omega
                have R := Lib.hid R
                clear hsc hdg hst hgr
                go_wp2_with fail
                go_ret2
                exact ⟨by first | rfl | (rw [R.out]; rfl), rfl⟩
              · have c3 : decide (104857 < n) = false := decide_eq_false hgr
                have HST := Lib.hid hst
                clear hsc hdg hst
                go_wp2_with fail
                go_roundw
                case rel => exact ⟨i + 1, 10 * n + (byt s i - 48), by omega, by omega, by go_num, by go_num, by omega, by omega, HST.out, trivial⟩
                case measure => simp [intOf]; omega
            · rw [if_neg hdg] at hst
              have R := Lib.hid (read_none hst)
              have hb2 : decide (byt s i < 48) = true ∨ (decide (byt s i < 48) = false ∧ decide (57 < byt s i) = true) := by
                unfold digB at hdg
                simp at hdg ⊢
                omega
              clear hsc hdg hst
              rcases hb2 with c1 | ⟨c1, c2⟩
              all_goals
                go_wp2_with fail
                go_ret2
                exact ⟨by first | rfl | (rw [R.out]; rfl), rfl⟩
          · obtain rfl : i = s.size := by omega
            have e1 : decide (s.size < s.size) = false := by simp
            have e1' : decide ((s.size : Int) < (s.size : Int)) = false := by simp
            rw [scanD_end (Nat.le_refl _)] at hsc
            by_cases hbig : 1048576 < n
            · have c3 : decide (1048576 < n) = true := decide_eq_true hbig
              have R := Lib.hid (read_big hsc hbig)
              clear hsc hbig
              go_wp2_with fail
              go_ret2
              exact ⟨by first | rfl | (rw [R.out]; rfl), rfl⟩
            · have c3 : decide (1048576 < n) = false := decide_eq_false hbig
              have R := read_done HNE.out HHD.out hsc (by omega)
              rw [HNG.out] at R
              have R := Lib.hid R
              clear hsc hbig
              go_wp2_with fail
              go_ret2
              exact ⟨by first | rfl | (rw [R.out]; rfl), rfl⟩
  · have HD := Lib.hid hd
    have HNG := Lib.hid hn
    rcases h0 with h0 | ⟨h0, h45⟩
    · have y0 : decide (0 < s.size) = false := decide_eq_false (by omega)
      have y0' : decide (0 < (s.size : Int)) = false := decide_eq_false (by omega)
      have R := Lib.hid (read_form (l := bl s) (.inl (by rw [hd, List.drop_zero]; exact List.length_eq_zero_iff.1 (by rw [bl_len]; exact h0))))
      have z1 : ((s.size : Int) == 0) = true := beq_iff_eq.2 (by omega)
      have z1' : (s.size == 0) = true := beq_iff_eq.2 h0
      clear hn hd HD HNG h0
      go_enter Tryd.func38, Tryd.ntmps38
      go_wp2_with fail
      go_ret2
      exact ⟨by first | rfl | (rw [R.out]; rfl), rfl⟩
    · have y0 : decide (0 < s.size) = true := decide_eq_true h0
      have y0' : decide (0 < (s.size : Int)) = true := decide_eq_true (by omega)
      have y1 := neB h45
      have z1 : ((s.size : Int) == 0) = false := beq_eq_false_iff_ne.2 (by omega)
      have z1' : (s.size == 0) = false := beq_eq_false_iff_ne.2 (by omega)
      have hne : digsF (bl s) ≠ [] := by
        rw [hd, List.drop_zero]
        intro e
        have := congrArg List.length e
        rw [bl_len] at this
        have h3 : s.size = 0 := this
        omega
      by_cases h48 : byt s 0 = 48
      · have t48 := eqB h48
        by_cases h1 : 1 < s.size
        · have u1 : decide (1 < s.size) = true := decide_eq_true h1
          have u1' : decide (1 < (s.size : Int)) = true := decide_eq_true (by omega)
          have R := Lib.hid (read_form (l := bl s) (.inr ⟨by rw [hd]; exact (head_byt h0 48).2 h48, fun e => by have := congrArg List.length e; rw [bl_len] at this; have h3 : s.size = 1 := this; omega⟩))
          clear h45 hn hd HD HNG h1 h48 hne
          go_enter Tryd.func38, Tryd.ntmps38
          go_wp2_with fail
          go_ret2
          exact ⟨by first | rfl | (rw [R.out]; rfl), rfl⟩
        · have u1 : decide (1 < s.size) = false := decide_eq_false h1
          have u1' : decide (1 < (s.size : Int)) = false := decide_eq_false (by omega)
          have HNE := Lib.hid hne
          have e48 : bl s = [48] := by
            obtain ⟨c, e1, e2⟩ := drop_byt s 0 h0
            rw [List.drop_zero, List.drop_eq_nil_of_le (by rw [bl_len]; omega)] at e1
            rw [e1]
            congr 1
            exact UInt8.toNat_inj.1 (by simpa using (by omega : c.toNat = 48))
          have HHD := Lib.hid (fun _ : (digsF (bl s)).head? = some 48 => e48)
          clear h45 hn hd h48 hne e48
          go_enter Tryd.func38, Tryd.ntmps38
          go_wp2_with fail
          go_loopw [7, 8] (fun s7 s8 wr => ∃ (i : Nat) (n : Int), 0 ≤ i ∧ i ≤ s.size ∧ s7 = .int .i64 n ∧ s8 = .int .i64 i ∧ 0 ≤ n ∧ n ≤ 1048579 ∧ scanD (digsF (bl s)) 0 = scanD ((bl s).drop i) n ∧ w = wr)
            (fun _ s8 _ => s.size - (intOf s8).toNat)
          case atStart => exact ⟨0, 0, by omega, by omega, rfl, by rfl, by omega, by omega, by rw [HD.out], rfl⟩
          case round =>
            obtain ⟨i, n, hi0, hi, rfl, rfl, hn0, hn1, hsc, rfl⟩ := hrel
            have k0 : (0 : Int) ≤ (i : Int) := by omega
            by_cases hlt : i < s.size
            · have e1 : decide (i < s.size) = true := decide_eq_true hlt
              have e1' : decide ((i : Int) < (s.size : Int)) = true := decide_eq_true (by omega)
              have k1 : (i : Int) < (s.size : Int) := by omega
              have hcb := byt_bd s i
              have hst := scanD_drop (n := n) hlt
              rw [← hsc] at hst
              by_cases hdg : digB (byt s i) = true
              · rw [if_pos hdg] at hst
                have hb2 : 48 ≤ byt s i ∧ byt s i ≤ 57 := of_decide_eq_true hdg
                obtain ⟨hb3, hb4⟩ := hb2
                have c1 : decide (byt s i < 48) = false := decide_eq_false (by omega)
                have c2 : decide (57 < byt s i) = false := decide_eq_false (by omega)
                by_cases hgr : 104857 < n
                · have c3 : decide (104857 < n) = true := decide_eq_true hgr
                  have R : readF (bl s) = none := by
                    cases hv : scanD (digsF (bl s)) 0 with
                    | none => exact read_none hv
                    | some v =>
                      refine read_big hv (scan_great hgr ?_ (hsc ▸ hv))
                      intro e
                      have := congrArg List.length e
                      rw [List.length_drop, bl_len] at this
                      simp at this
                      omega
                  have R := Lib.hid R
                  clear hsc hdg hst hgr
                  go_wp2_with fail
                  go_ret2
                  exact ⟨by first | rfl | (rw [R.out]; rfl), rfl⟩
                · have c3 : decide (104857 < n) = false := decide_eq_false hgr
                  have HST := Lib.hid hst
                  clear hsc hdg hst
                  go_wp2_with fail
                  go_roundw
                  case rel => exact ⟨i + 1, 10 * n + (byt s i - 48), by omega, by omega, by go_num, by go_num, by omega, by omega, HST.out, trivial⟩
                  case measure => simp [intOf]; omega
              · rw [if_neg hdg] at hst
                have R := Lib.hid (read_none hst)
                have hb2 : decide (byt s i < 48) = true ∨ (decide (byt s i < 48) = false ∧ decide (57 < byt s i) = true) := by
                  unfold digB at hdg
                  simp at hdg ⊢
                  omega
                clear hsc hdg hst
                rcases hb2 with c1 | ⟨c1, c2⟩
                all_goals
                  go_wp2_with fail
                  go_ret2
                  exact ⟨by first | rfl | (rw [R.out]; rfl), rfl⟩
            · obtain rfl : i = s.size := by omega
              have e1 : decide (s.size < s.size) = false := by simp
              have e1' : decide ((s.size : Int) < (s.size : Int)) = false := by simp
              rw [scanD_end (Nat.le_refl _)] at hsc
              by_cases hbig : 1048576 < n
              · have c3 : decide (1048576 < n) = true := decide_eq_true hbig
                have R := Lib.hid (read_big hsc hbig)
                clear hsc hbig
                go_wp2_with fail
                go_ret2
                exact ⟨by first | rfl | (rw [R.out]; rfl), rfl⟩
              · have c3 : decide (1048576 < n) = false := decide_eq_false hbig
                have R := read_done HNE.out HHD.out hsc (by omega)
                rw [HNG.out] at R
                have R := Lib.hid R
                clear hsc hbig
                go_wp2_with fail
                go_ret2
                exact ⟨by first | rfl | (rw [R.out]; rfl), rfl⟩
      · have t48 := neB h48
        have HNE := Lib.hid hne
        have HHD := Lib.hid (fun h : (digsF (bl s)).head? = some 48 => (absurd ((head_byt h0 48).1 (by rw [← hd]; exact h)) h48 : bl s = [48]))
        clear h45 hn hd h48 hne
        go_enter Tryd.func38, Tryd.ntmps38
        go_wp2_with fail
        go_loopw [7, 8] (fun s7 s8 wr => ∃ (i : Nat) (n : Int), 0 ≤ i ∧ i ≤ s.size ∧ s7 = .int .i64 n ∧ s8 = .int .i64 i ∧ 0 ≤ n ∧ n ≤ 1048579 ∧ scanD (digsF (bl s)) 0 = scanD ((bl s).drop i) n ∧ w = wr)
          (fun _ s8 _ => s.size - (intOf s8).toNat)
        case atStart => exact ⟨0, 0, by omega, by omega, rfl, by rfl, by omega, by omega, by rw [HD.out], rfl⟩
        case round =>
          obtain ⟨i, n, hi0, hi, rfl, rfl, hn0, hn1, hsc, rfl⟩ := hrel
          have k0 : (0 : Int) ≤ (i : Int) := by omega
          by_cases hlt : i < s.size
          · have e1 : decide (i < s.size) = true := decide_eq_true hlt
            have e1' : decide ((i : Int) < (s.size : Int)) = true := decide_eq_true (by omega)
            have k1 : (i : Int) < (s.size : Int) := by omega
            have hcb := byt_bd s i
            have hst := scanD_drop (n := n) hlt
            rw [← hsc] at hst
            by_cases hdg : digB (byt s i) = true
            · rw [if_pos hdg] at hst
              have hb2 : 48 ≤ byt s i ∧ byt s i ≤ 57 := of_decide_eq_true hdg
              obtain ⟨hb3, hb4⟩ := hb2
              have c1 : decide (byt s i < 48) = false := decide_eq_false (by omega)
              have c2 : decide (57 < byt s i) = false := decide_eq_false (by omega)
              by_cases hgr : 104857 < n
              · have c3 : decide (104857 < n) = true := decide_eq_true hgr
                have R : readF (bl s) = none := by
                  cases hv : scanD (digsF (bl s)) 0 with
                  | none => exact read_none hv
                  | some v =>
                    refine read_big hv (scan_great hgr ?_ (hsc ▸ hv))
                    intro e
                    have := congrArg List.length e
                    rw [List.length_drop, bl_len] at this
                    simp at this
                    omega
                have R := Lib.hid R
                clear hsc hdg hst hgr
                go_wp2_with fail
                go_ret2
                exact ⟨by first | rfl | (rw [R.out]; rfl), rfl⟩
              · have c3 : decide (104857 < n) = false := decide_eq_false hgr
                have HST := Lib.hid hst
                clear hsc hdg hst
                go_wp2_with fail
                go_roundw
                case rel => exact ⟨i + 1, 10 * n + (byt s i - 48), by omega, by omega, by go_num, by go_num, by omega, by omega, HST.out, trivial⟩
                case measure => simp [intOf]; omega
            · rw [if_neg hdg] at hst
              have R := Lib.hid (read_none hst)
              have hb2 : decide (byt s i < 48) = true ∨ (decide (byt s i < 48) = false ∧ decide (57 < byt s i) = true) := by
                unfold digB at hdg
                simp at hdg ⊢
                omega
              clear hsc hdg hst
              rcases hb2 with c1 | ⟨c1, c2⟩
              all_goals
                go_wp2_with fail
                go_ret2
                exact ⟨by first | rfl | (rw [R.out]; rfl), rfl⟩
          · obtain rfl : i = s.size := by omega
            have e1 : decide (s.size < s.size) = false := by simp
            have e1' : decide ((s.size : Int) < (s.size : Int)) = false := by simp
            rw [scanD_end (Nat.le_refl _)] at hsc
            by_cases hbig : 1048576 < n
            · have c3 : decide (1048576 < n) = true := decide_eq_true hbig
              have R := Lib.hid (read_big hsc hbig)
              clear hsc hbig
              go_wp2_with fail
              go_ret2
              exact ⟨by first | rfl | (rw [R.out]; rfl), rfl⟩
            · have c3 : decide (1048576 < n) = false := decide_eq_false hbig
              have R := read_done HNE.out HHD.out hsc (by omega)
              rw [HNG.out] at R
              have R := Lib.hid R
              clear hsc hbig
              go_wp2_with fail
              go_ret2
              exact ⟨by first | rfl | (rw [R.out]; rfl), rfl⟩
end Go.Proofs.YtlpmbjgimllmgaaDoor

/-
  event.number and cncref33.number: the number that a word stands for. Any word.
-/
import Derived.Test.YtkafmpgihhnhdaaDoorEnv33
import Derived.Laws.IdiomStrings
namespace Go.Proofs.YtkafmpgihhnhdaaDoor
open Go Go.RowKit
set_option linter.unusedVariables false
attribute [local go_sem ↓] ix_run

theorem ix0_run (s : ByteArray) (h : 0 < s.size) (W : World) : (Instr.index 9 (.string s) (.int .i64 0)).run Tryd.prog W = .ok (.int .u8 (byt s 0)) W := ix_run s 0 h W
attribute [local go_sem ↓] ix0_run
theorem conv_bytes (D : ByteArray) (W : World) : ∃ cap o, (convert 9 39 (.string D)).run Tryd.prog W = .ok (.slice (some ⟨W.heap.size, 0, none⟩) D.size cap) (W.drew.alloc o) ∧
    D.size ≤ cap ∧ ∀ i, i < D.size → (W.drew.alloc o).cell? ⟨W.heap.size, i, none⟩ = some (.int .u8 (byt D i)) := by
  refine ⟨_, _, run_bytes_of_string W 9 39 5 D Tryd.underlying9 Tryd.underlying39 Tryd.underlying5, grownCap_ge W D.size 0 _, fun i hi => ?_⟩
  rw [World.cell?, show (W.drew.alloc _).heap[W.heap.size]? = _ from heap_alloc_new W.drew _]
  simp only
  have hx := bytesRow_at D (grownCap W D.size 0 5) i hi
  rw [byt_at D i hi]
  have e : (D[i]'hi) = D.data[i]'hi := rfl
  rw [e]
  simpa using hx
def numV (o : Option Int) : Value := .tuple #[.int .i64 (o.getD 0), .bool o.isSome]
theorem neg_byt {s : ByteArray} (h : 0 < s.size) : negB (bl s) = (byt s 0 == 45) := by
  obtain ⟨c, e1, e2⟩ := drop_byt s 0 h
  rw [List.drop_zero] at e1
  unfold negB
  rw [e1, e2, List.head?_cons, Bool.eq_iff_iff, beq_iff_eq, beq_iff_eq, Option.some.injEq]
  constructor
  · rintro rfl; rfl
  · intro e; exact UInt8.toNat_inj.1 (by simpa using (by omega : c.toNat = 45))
theorem head48 {s : ByteArray} (h : 0 < s.size) : (bl s).head? = some 48 ↔ byt s 0 = 48 := by
  obtain ⟨c, e1, e2⟩ := drop_byt s 0 h
  rw [List.drop_zero] at e1
  rw [e1, e2, List.head?_cons, Option.some.injEq]
  constructor
  · rintro rfl; rfl
  · intro e; exact UInt8.toNat_inj.1 (by simpa using (by omega : c.toNat = 48))
theorem trim_digs (s : ByteArray) : (⟨(Lib.trimPrefix s.data.toList [45]).toArray⟩ : ByteArray) = mkB (digsF (bl s)) := by
  unfold Lib.trimPrefix digsF mkB
  have : Lib.hasPrefix s.data.toList [45] = negB (bl s) := by
    unfold Lib.hasPrefix negB bl
    cases s.data.toList with
    | nil => rfl
    | cons c l => simp [List.isPrefixOf]; rw [Bool.eq_iff_iff]; simp; exact eq_comm
  rw [this]
  rfl
/-- Why a word has no number, or which. -/
theorem num_none {l : List UInt8} (h : formB l = false) : numF l = none := by unfold numF; rw [h]; rfl
theorem num_some {l : List UInt8} (h : formB l = true) : numF l = (scanD (digsF l) 0).map fun n => if negB l = true then -n else n := by unfold numF; rw [h]; rfl
theorem form_yes {l : List UInt8} (h1 : (digsF l).length ≠ 0) (h2 : (digsF l).length ≤ 10) (h3 : (digsF l).head? = some 48 → l = [48]) : formB l = true := decide_eq_true ⟨fun e => h1 (by rw [e]; rfl), h2, h3⟩
theorem form_no0 {l : List UInt8} (h : (digsF l).length = 0) : formB l = false := decide_eq_false fun h' => h'.1 (List.length_eq_zero_iff.1 h)
theorem form_no10 {l : List UInt8} (h : 10 < (digsF l).length) : formB l = false := decide_eq_false fun h' => by have := h'.2.1; omega
theorem form_no48 {l : List UInt8} (h : (digsF l).head? = some 48) (h2 : l ≠ [48]) : formB l = false := decide_eq_false fun h' => h2 (h'.2.2 h)
theorem digs_less (l : List UInt8) : (digsF l).length < l.length ↔ negB l = true := by
  unfold digsF
  split
  · rename_i h
    cases l with
    | nil => cases h
    | cons c l => simp [h]
  · rename_i h
    simp [h]
theorem digs_le (l : List UInt8) : (digsF l).length ≤ l.length := by
  unfold digsF
  split
  · simp
  · exact Nat.le_refl _
set_option maxRecDepth 100000 in
theorem number_any (s : ByteArray) (hs : s.size ≤ 1000000) (w : World) : Calls Tryd.prog 39 #[.string s] w fun e w' => e = .returned (numV (numF (bl s))) ∧ Below w.heap.size w w' := by
  have KT := Tryd.strings_TrimPrefix s ⟨#[45]⟩ w
  rw [show (⟨#[45]⟩ : ByteArray).data.toList = [45] from rfl, trim_digs] at KT
  obtain ⟨D, hD⟩ : ∃ D, mkB (digsF (bl s)) = D := ⟨_, rfl⟩
  have hbD : bl D = digsF (bl s) := by rw [← hD, bl_mkB]
  have hszD : (digsF (bl s)).length = D.size := by rw [← hbD, bl_len]
  have hle : D.size ≤ s.size := by rw [← hszD, ← bl_len s]; exact digs_le _
  have hlt : D.size < s.size ↔ negB (bl s) = true := by rw [← hszD, ← bl_len s]; exact digs_less _
  rw [hD] at KT
  have KT := Lib.hid KT
  clear hD
  by_cases h0 : D.size = 0
  · have R := Lib.hid (num_none (form_no0 (l := bl s) (by omega)))
    have d0 : (D.size == 0) = true := by simpa using h0
    have d0' : ((D.size : Int) == 0) = true := by simpa using h0
    clear h0 hlt hbD hszD hle
    go_enter Tryd.func39, Tryd.ntmps39
    go_wp2_with (go_at_call 44; refine KT.out.mono ?_; rintro e w' ⟨rfl, rfl⟩)
    go_ret2
    exact ⟨by rw [R.out]; rfl, Below.refl _ _⟩
  · have d0 : (D.size == 0) = false := by simpa using h0
    have d0' : ((D.size : Int) == 0) = false := by simpa using h0
    by_cases h10 : 10 < D.size
    · have R := Lib.hid (num_none (form_no10 (l := bl s) (by omega)))
      have d1 : decide (10 < D.size) = true := by simpa using h10
      have d1' : decide (10 < (D.size : Int)) = true := by simp; omega
      clear h0 hlt hbD hszD hle
      go_enter Tryd.func39, Tryd.ntmps39
      go_wp2_with (go_at_call 44; refine KT.out.mono ?_; rintro e w' ⟨rfl, rfl⟩)
      go_ret2
      exact ⟨by rw [R.out]; rfl, Below.refl _ _⟩
    · have d1 : decide (10 < D.size) = false := by simpa using h10
      have d1' : decide (10 < (D.size : Int)) = false := by simp; omega
      have i0 : (0 : Int) < (D.size : Int) := by omega
      have j0 : 0 < D.size := by omega
      have hh := head48 (s := D) j0
      have hls : (s.toList = [48]) ↔ bl s = [48] := by rw [toList_bl]
      by_cases hbad : byt D 0 = 48 ∧ bl s ≠ [48]
      · have R := Lib.hid (num_none (form_no48 (l := bl s) (by rw [← hbD]; exact hh.2 hbad.1) hbad.2))
        have t48 := eqB hbad.1
        have tl : (s.toList == [48]) = false := by
          rw [beq_eq_false_iff_ne]
          exact fun e => hbad.2 (hls.1 e)
        clear h0 hlt hbD hszD hle hbad hls hh h10
        go_enter Tryd.func39, Tryd.ntmps39
        go_wp2_with (go_at_call 44; refine KT.out.mono ?_; rintro e w' ⟨rfl, rfl⟩)
        go_ret2
        exact ⟨by rw [R.out]; rfl, Below.refl _ _⟩
      · have R := num_some (form_yes (l := bl s) (by omega) (by omega) fun h48 => by
          rw [← hbD] at h48
          by_cases e : bl s = [48]
          · exact e
          · exact absurd ⟨hh.1 h48, e⟩ hbad)
        rw [← hbD] at R
        have R := Lib.hid R
        have ht : (byt D 0 == 48) = false ∨ ((byt D 0 == 48) = true ∧ (s.toList == [48]) = true) := by
          by_cases e : byt D 0 = 48
          · right
            refine ⟨eqB e, ?_⟩
            rw [beq_iff_eq]
            refine hls.2 ?_
            by_cases e2 : bl s = [48]
            · exact e2
            · exact absurd ⟨e, e2⟩ hbad
          · exact .inl (neB e)
        have HLT := Lib.hid hlt
        have hD10 : D.size ≤ 10 := by omega
        obtain ⟨cap, o, hcv, hcap, hc⟩ := conv_bytes D w
        obtain ⟨w1, hw1⟩ : ∃ w1, w.drew.alloc o = w1 := ⟨_, rfl⟩
        have bel : Below w.heap.size w w1 := by
          rw [← hw1]
          exact (below_drewN (Below.refl w.heap.size w) 1).alloc (Nat.le_refl _) o
        rw [hw1] at hcv hc
        have HC := Lib.hid hc
        have BEL := Lib.hid bel
        clear h0 hlt hbD hszD hle hbad hls hh h10 hw1 hc bel
        rcases ht with t48 | ⟨t48, tl⟩
        all_goals
          go_enter Tryd.func39, Tryd.ntmps39
          go_wp2_with (go_at_call 44; refine KT.out.mono ?_; rintro e w' ⟨rfl, rfl⟩)
          clear hcv KT
          go_loopw [5, 30] (fun s5 s30 wr => ∃ (i : Nat) (n : Int), i ≤ D.size ∧ s5 = .int .i64 n ∧ s30 = .int .i64 i ∧ 0 ≤ n ∧ n < 10 ^ i ∧ scanD (bl D) 0 = scanD ((bl D).drop i) n ∧ w1 = wr)
            (fun _ s30 _ => D.size - (intOf s30).toNat)
          case atStart => exact ⟨0, 0, by omega, rfl, rfl, by omega, by decide, by rw [List.drop_zero], rfl⟩
          case round =>
            obtain ⟨i, n, hi, rfl, rfl, hn0, hn1, hsc, rfl⟩ := hrel
            have k0 : (0 : Int) ≤ (i : Int) := by omega
            have hp : (10 : Int) ^ i ≤ 10000000000 := by
              have := Nat.pow_le_pow_right (n := 10) (by omega) (show i ≤ 10 by omega)
              have e : ((10 ^ i : Nat) : Int) = (10 : Int) ^ i := by push_cast; rfl
              omega
            by_cases hlt : i < D.size
            · have e1 : decide (i < D.size) = true := by simpa using hlt
              have hcl := HC.out i hlt
              have hcb := byt_bd D i
              have hst := scanD_drop (n := n) hlt
              rw [← hsc] at hst
              by_cases hdg : digB (byt D i) = true
              · rw [if_pos hdg] at hst
                have HST := Lib.hid hst
                have hb2 : 48 ≤ byt D i ∧ byt D i ≤ 57 := of_decide_eq_true hdg
                obtain ⟨hb3, hb4⟩ := hb2
                have c1 : decide (byt D i < 48) = false := by simp; omega
                have c2 : decide (57 < byt D i) = false := by simp; omega
                have hn2 : 10 * n + (byt D i - 48) < 10 ^ (i + 1) := by rw [Int.pow_succ]; omega
                have HN := Lib.hid hn2
                clear hsc hdg hst hn2
                go_wp2_with fail
                go_roundw
                case rel => exact ⟨i + 1, 10 * n + (byt D i - 48), by omega, by go_num, by go_num, by omega, HN.out, HST.out, trivial⟩
                case measure => simp [intOf]; omega
              · rw [if_neg hdg] at hst
                have R2 : numF (bl s) = none := by rw [R.out, hst]; rfl
                have R2 := Lib.hid R2
                have hb2 : decide (byt D i < 48) = true ∨ (decide (byt D i < 48) = false ∧ decide (57 < byt D i) = true) := by
                  unfold digB at hdg
                  simp at hdg ⊢
                  omega
                clear hsc hdg hst
                rcases hb2 with c1 | ⟨c1, c2⟩
                all_goals
                  go_wp2_with fail
                  go_ret2
                  exact ⟨by rw [R2.out]; rfl, BEL.out⟩
            · obtain rfl : i = D.size := by omega
              have e1 : decide (D.size < D.size) = false := by simp
              rw [scanD_end (Nat.le_refl _)] at hsc
              have R2 := R.out
              rw [hsc] at R2
              by_cases hneg : negB (bl s) = true
              · rw [Option.map_some, if_pos hneg] at R2
                have R2 := Lib.hid R2
                have hls2 : decide (D.size < s.size) = true := by simpa using HLT.out.2 hneg
                clear hsc hneg
                go_wp2_with fail
                go_ret2
                exact ⟨by rw [R2.out]; rfl, BEL.out⟩
              · rw [Option.map_some, if_neg hneg] at R2
                have R2 := Lib.hid R2
                have hls2 : decide (D.size < s.size) = false := by
                  rw [decide_eq_false_iff_not]
                  exact fun h => hneg (HLT.out.1 h)
                clear hsc hneg
                go_wp2_with fail
                go_ret2
                exact ⟨by rw [R2.out]; rfl, BEL.out⟩
end Go.Proofs.YtkafmpgihhnhdaaDoor

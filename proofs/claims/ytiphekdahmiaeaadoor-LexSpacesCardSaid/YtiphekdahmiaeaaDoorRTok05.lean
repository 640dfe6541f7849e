/-
  cncref05.Tokens: the tokens of a line, or the offset of the first error. Any line of at most 1,000,000 bytes.
-/
import Derived.Test.YtiphekdahmiaeaaDoorTok05
import Derived.Test.YtiphekdahmiaeaaDoorRNames05
import Derived.Test.YtiphekdahmiaeaaDoorRParse05
import Derived.Test.YtiphekdahmiaeaaDoorScan05
namespace Go.Proofs.YtiphekdahmiaeaaDoor
open Go Go.RowKit
set_option linter.unusedVariables false
attribute [local go_sem ↓] ix_run

def IdxR (s : ByteArray) (k j : Nat) : Prop := Lib.indexByte ((bl s).drop k) 41 = if Lib.indexByte ((bl s).drop j) 41 = -1 then -1 else Lib.indexByte ((bl s).drop j) 41 + ((j : Int) - k)
theorem idx_step {s : ByteArray} {j : Nat} (h : j < s.size) (hn : byt s j ≠ 41) : Lib.indexByte ((bl s).drop j) 41 = if Lib.indexByte ((bl s).drop (j + 1)) 41 = -1 then -1 else Lib.indexByte ((bl s).drop (j + 1)) 41 + 1 := by
  obtain ⟨c, e1, e2⟩ := drop_byt s j h
  rw [e1, Lib.indexByte]
  have : (c == 41) = false := by
    rw [beq_eq_false_iff_ne]
    rintro rfl
    exact hn e2
  rw [this]
  simp only [beq_iff_eq]
  simp
theorem idx_hit {s : ByteArray} {j : Nat} (h : j < s.size) (hn : byt s j = 41) : Lib.indexByte ((bl s).drop j) 41 = 0 := by
  obtain ⟨c, e1, e2⟩ := drop_byt s j h
  rw [e1, Lib.indexByte]
  have : (c == 41) = true := by
    rw [beq_iff_eq]
    exact UInt8.toNat_inj.1 (by simpa using (by omega : c.toNat = 41))
  rw [this]
  simp
theorem idx_end {s : ByteArray} {j : Nat} (h : s.size ≤ j) : Lib.indexByte ((bl s).drop j) 41 = -1 := by
  rw [List.drop_eq_nil_of_le (by rw [bl_len]; exact h), Lib.indexByte]
theorem IdxR.refl (s : ByteArray) (k : Nat) : IdxR s k k := by
  unfold IdxR
  split
  · assumption
  · omega
theorem IdxR.next {s : ByteArray} {k j : Nat} (h : IdxR s k j) (hj : j < s.size) (hn : byt s j ≠ 41) : IdxR s k (j + 1) := by
  unfold IdxR at h ⊢
  have h1 := Lib.indexByte_ge ((bl s).drop (j + 1)) 41
  rw [h, idx_step hj hn]
  by_cases e : Lib.indexByte ((bl s).drop (j + 1)) 41 = -1
  · rw [if_pos e, if_pos rfl, if_pos e]
  · rw [if_neg e, if_neg (by omega), if_neg e]
    omega
theorem IdxR.hit {s : ByteArray} {k j : Nat} (h : IdxR s k j) (hj : j < s.size) (hn : byt s j = 41) : Lib.indexByte ((bl s).drop k) 41 = (j : Int) - k := by
  unfold IdxR at h
  rw [h, idx_hit hj hn, if_neg (by omega)]
  omega
theorem IdxR.stop {s : ByteArray} {k j : Nat} (h : IdxR s k j) (hj : s.size ≤ j) : Lib.indexByte ((bl s).drop k) 41 = -1 := by
  unfold IdxR at h
  rw [h, idx_end hj, if_pos rfl]

set_option maxRecDepth 100000 in
set_option maxHeartbeats 4000000 in
theorem rtokens_any (s : ByteArray) (hs : s.size ≤ 1000000) (w : World) : Calls Tryd.prog 15 #[.string s] w (TokPost (lexT (bl s) 0) s.size w) := by
  go_enter Tryd.func15, Tryd.ntmps15
  go_wp2_with fail
  go_loopw [5, 6] (fun s5 s6 wr => ∃ (k : Nat) (ts : List TokL), k ≤ s.size ∧ ts.length ≤ k ∧ s6 = .int .i64 k ∧ wr.ownsRow w.heap.size 39 4 s5 ts.length (toksC ts) ∧ lexT (bl s) 0 = Res.join ts (lexT ((bl s).drop k) k) ∧ Below w.heap.size w wr)
    (fun _ s6 _ => s.size - (intOf s6).toNat)
  case atStart => exact ⟨0, [], by omega, by simp, rfl, World.ownsRow_nil _ _ _ _, by rw [Res.join_nil]; rfl, Below.refl _ _⟩
  case round =>
    obtain ⟨k, ts, hk, hts, rfl, hown, hj, bel⟩ := hrel
    have hsz := bel.size
    have k0 : (0 : Int) ≤ (k : Int) := by omega
    have HOWN := Lib.hid hown
    by_cases hlt : k < s.size
    · have d1 : decide (k < s.size) = true := by simpa using hlt
      have hcb := byt_bd s k
      by_cases hb : blankB (byt s k) = true
      · have HJ := Lib.hid (j_skip hj (st_blank hlt hb))
        have hc : byt s k = 32 ∨ (byt s k ≠ 32 ∧ byt s k = 9) ∨ (byt s k ≠ 32 ∧ byt s k ≠ 9 ∧ byt s k = 13) := by unfold blankB at hb; simp at hb; omega
        have hf : ((byt s k == 32) = true) ∨ ((byt s k == 32) = false ∧ (byt s k == 9) = true) ∨ ((byt s k == 32) = false ∧ (byt s k == 9) = false ∧ (byt s k == 13) = true) := by simpa using hc
        clear hb hj hown hc
        rcases hf with f1 | ⟨f1, f2⟩ | ⟨f1, f2, f3⟩
        all_goals
          go_wp2_with fail
          go_roundw
          case rel => exact ⟨k + 1, ts, by omega, by omega, by go_num, HOWN.out, HJ.out, bel⟩
          case measure => simp [intOf]; omega
      · have hb : blankB (byt s k) = false := by simpa using hb
        have hc : byt s k ≠ 32 ∧ byt s k ≠ 9 ∧ byt s k ≠ 13 := by unfold blankB at hb; simp at hb; exact hb
        obtain ⟨c1, c2, c3⟩ := hc
        have t32 := neB c1
        have t9 := neB c2
        have t13 := neB c3
        clear c1 c2 c3
        by_cases h59 : byt s k = 59
        · have t59 := eqB h59
          have hj' := j_skip hj (st_semi hlt h59)
          rw [show k + (s.size - k) = s.size by omega] at hj'
          have HJ := Lib.hid hj'
          clear hb hj hown h59 hj'
          go_wp2_with fail
          go_roundw
          case rel => exact ⟨s.size, ts, by omega, by omega, rfl, HOWN.out, HJ.out, bel⟩
          case measure => simp [intOf]; omega
        · have t59 := neB h59
          by_cases h40 : byt s k = 40
          · have t40 := eqB h40
            have hst := st_par hlt h40
            have HST := Lib.hid hst
            have HJ := Lib.hid hj
            have IR := Lib.hid ((IdxR.refl s k).next hlt (by omega))
            have HLT := Lib.hid hlt
            obtain ⟨wo, rfl⟩ : ∃ wo, wo = wr := ⟨_, rfl⟩
            clear hb hj hown h59 h40 hst
            go_wp2_with fail
            go_loopw [8] (fun s8 wr => ∃ j : Nat, k + 1 ≤ j ∧ j ≤ s.size ∧ s8 = .int .i64 j ∧ IdxR s k j ∧ wo = wr)
              (fun s8 _ => s.size - (intOf s8).toNat)
            case atStart => exact ⟨k + 1, Nat.le_refl _, by omega, by go_num, IR.out, rfl⟩
            case round =>
              obtain ⟨j, hkj, hj, rfl, hir, rfl⟩ := hrel
              have j0 : (0 : Int) ≤ (j : Int) := by omega
              by_cases hlj : j < s.size
              · have e1 : decide (j < s.size) = true := by simpa using hlj
                have hcb2 := byt_bd s j
                by_cases h41 : byt s j = 41
                · have t41 : (byt s j != 41) = false := by rw [h41]; rfl
                  have hidx := hir.hit hlj h41
                  have hst2 := HST.out
                  rw [hidx, if_neg (by omega)] at hst2
                  have hj2 := j_skip HJ.out hst2
                  rw [show k + (((j : Int) - k).toNat + 1) = j + 1 by omega] at hj2
                  have HJ2 := Lib.hid hj2
                  have e2 : ((j : Int) == (s.size : Int)) = false := by simp; omega
                  have e2' : (j == s.size) = false := by simp; omega
                  clear hir h41 hidx hst2 hj2
                  go_wp2_with fail
                  go_roundw
                  case rel => exact ⟨j + 1, ts, by omega, by omega, by go_num, HOWN.out, HJ2.out, bel⟩
                  case measure => simp [intOf]; omega
                · have t41 : (byt s j != 41) = true := by rw [bne_iff_ne]; exact h41
                  have IR2 := Lib.hid (hir.next hlj h41)
                  clear hir h41
                  go_wp2_with fail
                  go_roundw
                  case rel => exact ⟨j + 1, by omega, by omega, by go_num, IR2.out, trivial⟩
                  case measure => simp [intOf]; omega
              · obtain rfl : j = s.size := by omega
                have e1 : decide (s.size < s.size) = false := by simp
                have hst2 := HST.out
                rw [hir.stop (Nat.le_refl _), if_pos rfl] at hst2
                have R := Lib.hid (j_bad HJ.out HLT.out hst2)
                clear hir hst2
                go_wp2_with fail
                go_ret3
                exact fin_bad R.out bel
          · have t40 := neB h40
            have KN := fun W => part_any (byt s k) W
            have hwb : IntKind.i64.wrap (byt s k) = byt s k := by rw [IntKind.wrap_i64]; omega
            have k1 : (k : Int) ≤ (s.size : Int) := by omega
            cases hn : numB (byt s k)
            · simp only [hn] at KN
              have KNH := Lib.hid KN
              cases hl : lettB (byt s k)
              · have hst := st_sgn hlt hn hl hb h59 h40
                have hlB : (decide (65 ≤ byt s k) = true ∧ decide (byt s k ≤ 90) = false) ∨ decide (65 ≤ byt s k) = false := by
                  unfold lettB at hl
                  simp at hl ⊢
                  omega
                have KS := fun W => sign_any (byt s k) W
                cases hsg : sgnB (byt s k)
                · simp only [hsg] at KS
                  have KSH := Lib.hid KS
                  rw [hsg, if_neg (by simp)] at hst
                  have R := Lib.hid (j_bad hj hlt hst)
                  clear hb hj hown h59 h40 hst hsg hl hn KN KS
                  rcases hlB with ⟨q1, q2⟩ | q1
                  all_goals
                    go_wp2_with fail
                    refine (KNH.out _).mono ?_
                    rintro e w' ⟨rfl, rfl⟩
                    go_wp2_with fail
                    refine (KSH.out _).mono ?_
                    rintro e w' ⟨rfl, rfl⟩
                    go_wp2_with fail
                    go_ret3
                    exact fin_bad R.out bel
                · simp only [hsg] at KS
                  have KSH := Lib.hid KS
                  rw [hsg, if_pos rfl] at hst
                  have HJ := Lib.hid (j_tok hj hst)
                  have ES := Lib.hid (one_extract s k)
                  have s2 : (k : Int) + 1 ≤ (s.size : Int) := by omega
                  have s3 : ((k : Int) + 1).toNat = k + 1 := by omega
                  clear hb hj hown h59 h40 hst hsg hl hn KN KS
                  rcases hlB with ⟨q1, q2⟩ | q1
                  all_goals
                    go_wp2_with fail
                    refine (KNH.out _).mono ?_
                    rintro e w' ⟨rfl, rfl⟩
                    go_wp2_with fail
                    refine (KSH.out _).mono ?_
                    rintro e w' ⟨rfl, rfl⟩
                    go_wp2_with (first
                      | ((with_reducible refine go_built 39 _ #[.int .i64 4, .int .i64 0, .int .i64 k, .string (s.extract k (k + 1))] (by with_unfolding_all kernel_rfl) ?_))
                      | ((with_reducible refine go_tok1 (.tmp 130) _ _ _ _ (by with_unfolding_all rfl) ?_))
                      | ((with_reducible refine go_append1 (.tmp 124) (.tmp 131) ts ⟨4, 0, k, ((bl s).drop k).take 1⟩ (wr.heap.size) (by with_unfolding_all rfl) (HOWN.out.alloc _) (by with_unfolding_all rfl) (by unfold tokC; rw [ES.out]; with_unfolding_all exact Blk.new wr _ _) (by omega) (by simp; omega) ?_); intro v' w2 hown2 hgrow; have bel2 : Below w.heap.size w w2 := (bel.alloc bel.size _).trans (below_of_grown hgrow (by simp; omega) (fun k e => ((HOWN.out).lt k e).1)); have FF := Lib.hid (And.intro hown2 bel2); clear hown2 hgrow bel2))
                    go_roundw
                    case rel => exact ⟨k + 1, ts ++ [⟨4, 0, k, ((bl s).drop k).take 1⟩], by omega, by rw [List.length_append]; simp; omega, by go_num, FF.out.1, HJ.out, FF.out.2⟩
                    case measure => simp [intOf]; omega
              · have hst := st_lett hlt hl
                have q1 : decide (65 ≤ byt s k) = true := by unfold lettB at hl; simp at hl ⊢; omega
                have q2 : decide (byt s k ≤ 90) = true := by unfold lettB at hl; simp at hl ⊢; omega
                have KL := named_any s k (by omega) hk wr
                by_cases hlg : longest ((bl s).drop k) = []
                · rw [if_pos hlg] at hst
                  have HJ := Lib.hid (j_tok hj hst)
                  rw [hlg, show mkB [] = ⟨#[]⟩ from rfl] at KL
                  have KLY := Lib.hid KL
                  clear hb hj hown h59 h40 hst hl hn KN hlg KL
                  go_wp2_with fail
                  refine (KNH.out _).mono ?_
                  rintro e w' ⟨rfl, rfl⟩
                  go_wp2_with fail
                  refine KLY.out.mono ?_
                  rintro e w1 ⟨rfl, b1⟩
                  have bel1 := bel.trans (b1.mono hsz)
                  have HOWN1 := Lib.hid ((HOWN.out).kept (grown_of_below b1) (Classical.em _))
                  have hsz1 := b1.size
                  clear b1
                  go_wp2_with (first
                    | ((with_reducible refine go_built 39 _ #[.int .i64 1, .int .i64 (byt s k), .int .i64 k, .string ⟨#[]⟩] (by with_unfolding_all kernel_rfl) ?_))
                    | ((with_reducible refine go_tok1 (.tmp 108) _ _ _ _ (by with_unfolding_all rfl) ?_))
                    | ((with_reducible refine go_append1 (.tmp 104) (.tmp 109) ts ⟨1, byt s k, k, []⟩ (w1.heap.size) (by with_unfolding_all rfl) (HOWN1.out.alloc _) (by with_unfolding_all rfl) (by with_unfolding_all exact Blk.new w1 _ _) (by omega) (by simp; omega) ?_); intro v' w2 hown2 hgrow; have bel2 : Below w.heap.size w w2 := (bel1.alloc bel1.size _).trans (below_of_grown hgrow (by simp; omega) (fun k e => ((HOWN1.out).lt k e).1)); have FF := Lib.hid (And.intro hown2 bel2); clear hown2 hgrow bel2))
                  go_roundw
                  case rel => exact ⟨k + 1, ts ++ [⟨1, byt s k, k, []⟩], by omega, by rw [List.length_append]; simp; omega, by go_num, FF.out.1, HJ.out, FF.out.2⟩
                  case measure => simp [intOf]; omega
                · rw [if_neg hlg] at hst
                  have HJ := Lib.hid (j_tok hj hst)
                  obtain ⟨z1, z2, z3⟩ := mkB_ne hlg
                  have hle : k + (longest ((bl s).drop k)).length ≤ s.size := by
                    have := (longest_prefix ((bl s).drop k)).length_le
                    rw [List.length_drop, bl_len] at this
                    omega
                  have hms := mkB_size (longest ((bl s).drop k))
                  have hl0 : 0 < (longest ((bl s).drop k)).length := by
                    rcases Nat.eq_zero_or_pos (longest ((bl s).drop k)).length with e | e
                    · exact absurd (List.length_eq_zero_iff.1 e) hlg
                    · exact e
                  have hle' : (k : Int) + ((mkB (longest ((bl s).drop k))).size : Int) ≤ 1000000 := by rw [hms]; omega
                  generalize longest ((bl s).drop k) = nm at *
                  have KLY := Lib.hid KL
                  have MS := Lib.hid hms
                  have HL0 := Lib.hid hl0
                  clear hb hj hown h59 h40 hst hl hn KN hlg KL hms
                  go_wp2_with fail
                  refine (KNH.out _).mono ?_
                  rintro e w' ⟨rfl, rfl⟩
                  go_wp2_with fail
                  refine KLY.out.mono ?_
                  rintro e w1 ⟨rfl, b1⟩
                  have bel1 := bel.trans (b1.mono hsz)
                  have HOWN1 := Lib.hid ((HOWN.out).kept (grown_of_below b1) (Classical.em _))
                  have hsz1 := b1.size
                  clear b1
                  go_wp2_with (first
                    | ((with_reducible refine go_built 39 _ #[.int .i64 3, .int .i64 0, .int .i64 k, .string (mkB nm)] (by with_unfolding_all kernel_rfl) ?_))
                    | ((with_reducible refine go_tok1 (.tmp 118) _ _ _ _ (by with_unfolding_all rfl) ?_))
                    | ((with_reducible refine go_append1 (.tmp 115) (.tmp 119) ts ⟨3, 0, k, nm⟩ (w1.heap.size) (by with_unfolding_all rfl) (HOWN1.out.alloc _) (by with_unfolding_all rfl) (by with_unfolding_all exact Blk.new w1 _ _) (by omega) (by simp; omega) ?_); intro v' w2 hown2 hgrow; have bel2 : Below w.heap.size w w2 := (bel1.alloc bel1.size _).trans (below_of_grown hgrow (by simp; omega) (fun k e => ((HOWN1.out).lt k e).1)); have FF := Lib.hid (And.intro hown2 bel2); clear hown2 hgrow bel2))
                  go_roundw
                  case rel => exact ⟨k + nm.length, ts ++ [⟨3, 0, k, nm⟩], by omega, by have := HL0.out; have := MS.out; rw [List.length_append]; simp; omega, by first | go_num | (rw [MS.out]; go_num), FF.out.1, HJ.out, FF.out.2⟩
                  case measure => have := HL0.out; have := MS.out; simp [intOf]; omega
            · simp only [hn] at KN
              have KNH := Lib.hid KN
              have hst := st_num hlt hb h59 h40 hn
              have hE := numE_le s k hk
              have hE1 : k + 1 + (((bl s).drop (k + 1)).takeWhile num).length = numE s k := by unfold numE numT; rw [num_len_yes s k hlt hn]; omega
              have HE1 := Lib.hid hE1
              have hE0 : k < numE s k := by omega
              have HST := Lib.hid hst
              have HJ0 := Lib.hid hj
              have HLT := Lib.hid hlt
              obtain ⟨wo, rfl⟩ : ∃ wo, wo = wr := ⟨_, rfl⟩
              clear hb hj hown h59 h40 hst hn KN hE1
              go_wp2_with fail
              refine (KNH.out _).mono ?_
              rintro e w' ⟨rfl, rfl⟩
              go_wp2_with fail
              go_loopw [8] (fun s8 wr => ∃ j : Nat, k + 1 ≤ j ∧ j ≤ s.size ∧ s8 = .int .i64 j ∧ j + (((bl s).drop j).takeWhile num).length = numE s k ∧ wo = wr)
                (fun s8 _ => s.size - (intOf s8).toNat)
              case atStart => exact ⟨k + 1, Nat.le_refl _, by omega, by go_num, HE1.out, rfl⟩
              case round =>
                obtain ⟨j, hkj, hj, rfl, ej, rfl⟩ := hrel
                have j0 : (0 : Int) ≤ (j : Int) := by omega
                have hfin : (j < s.size → numB (byt s j) = false) → j = numE s k := fun h => by rw [← ej, num_len_no s j h]; omega
                have HFIN := Lib.hid hfin
                clear hfin
                by_cases hcase : j < s.size ∧ numB (byt s j) = true
                · obtain ⟨hlj, hnj⟩ := hcase
                  have e1 : decide (j < s.size) = true := by simpa using hlj
                  have KN2 := fun W => part_any (byt s j) W
                  simp only [hnj] at KN2
                  have KH2 := Lib.hid KN2
                  rw [num_len_yes s j hlj hnj] at ej
                  have EJ := Lib.hid ej
                  clear ej hnj KN2 HFIN
                  go_wp2_with fail
                  refine (KH2.out _).mono ?_
                  rintro e w' ⟨rfl, rfl⟩
                  go_wp2_with fail
                  go_roundw
                  case rel => exact ⟨j + 1, by omega, by omega, by go_num, by rw [← EJ.out]; omega, trivial⟩
                  case measure => simp [intOf]; omega
                · have ejn := HFIN.out (fun h => by
                    cases hx : numB (byt s j)
                    · rfl
                    · exact absurd ⟨h, hx⟩ hcase)
                  clear HFIN ej
                  have KP := rparse_any (s.extract k j) (by rw [ByteArray.size_extract]; omega) wo
                  rw [ejn, num_extract, ← ejn, scan_parse] at KP
                  have hst2 := HST.out
                  obtain ⟨r, er⟩ : ∃ r, parseF (numT s k) = r := ⟨_, rfl⟩
                  rw [er] at hst2 KP
                  have KPH := Lib.hid KP
                  have ER := Lib.hid er
                  have EJN := Lib.hid ejn
                  have kj : (k : Int) ≤ (j : Int) := by omega
                  have js : (j : Int) ≤ (s.size : Int) := by omega
                  have hcalls : (decide (j < s.size) = false) ∨ (decide (j < s.size) = true ∧ numB (byt s j) = false) := by
                    by_cases h : j < s.size
                    · right
                      refine ⟨by simpa using h, ?_⟩
                      cases hx : numB (byt s j)
                      · rfl
                      · exact absurd ⟨h, hx⟩ hcase
                    · left; simpa using h
                  have KN2 := Lib.hid (fun W => part_any (byt s j) W)
                  cases r with
                  | none =>
                    have R := Lib.hid (j_bad HJ0.out HLT.out hst2)
                    clear hst2 er ejn KP hcase
                    rcases hcalls with q | ⟨q, q2⟩
                    · have hjs : s.size ≤ j := by simpa using q
                      go_wp2_with fail
                      refine KPH.out.mono ?_
                      rintro e w' ⟨rfl, rfl⟩
                      simp only [pv, pe]
                      go_wp2_with fail
                      go_ret3
                      exact fin_bad R.out bel
                    · have hjs : j < s.size := by simpa using q
                      have KN3 := KN2.out
                      simp only [q2] at KN3
                      have KN4 := Lib.hid KN3
                      clear KN3 q2
                      go_wp2_with fail
                      refine (KN4.out _).mono ?_
                      rintro e w' ⟨rfl, rfl⟩
                      go_wp2_with fail
                      refine KPH.out.mono ?_
                      rintro e w' ⟨rfl, rfl⟩
                      simp only [pv, pe]
                      go_wp2_with fail
                      go_ret3
                      exact fin_bad R.out bel
                  | some v =>
                    have hj2 := j_tok HJ0.out hst2
                    rw [show k + (numT s k).length = numE s k from rfl, ← ejn] at hj2
                    have HJ := Lib.hid hj2
                    clear hst2 er ejn KP hcase hj2
                    rcases hcalls with q | ⟨q, q2⟩
                    · have hjs : s.size ≤ j := by simpa using q
                      go_wp2_with fail
                      refine KPH.out.mono ?_
                      rintro e w' ⟨rfl, rfl⟩
                      simp only [pv, pe]
                      go_wp2_with (first
                        | ((with_reducible refine go_built 39 _ #[.int .i64 2, .int .i64 v, .int .i64 k, .string ⟨#[]⟩] (by with_unfolding_all kernel_rfl) ?_))
                        | ((with_reducible refine go_tok1 (.tmp 89) _ _ _ _ (by with_unfolding_all rfl) ?_))
                        | ((with_reducible refine go_append1 (.tmp 86) (.tmp 90) ts ⟨2, v, k, []⟩ (wo.heap.size) (by with_unfolding_all rfl) (HOWN.out.alloc _) (by with_unfolding_all rfl) (by with_unfolding_all exact Blk.new wo _ _) (by omega) (by simp; omega) ?_); intro v' w2 hown2 hgrow; have bel2 : Below w.heap.size w w2 := (bel.alloc bel.size _).trans (below_of_grown hgrow (by simp; omega) (fun k e => ((HOWN.out).lt k e).1)); have FF := Lib.hid (And.intro hown2 bel2); clear hown2 hgrow bel2))
                      go_roundw
                      case rel => exact ⟨j, ts ++ [⟨2, v, k, []⟩], by omega, by rw [List.length_append]; simp; omega, rfl, FF.out.1, HJ.out, FF.out.2⟩
                      case measure => simp [intOf]; omega
                    · have hjs : j < s.size := by simpa using q
                      have KN3 := KN2.out
                      simp only [q2] at KN3
                      have KN4 := Lib.hid KN3
                      clear KN3 q2
                      go_wp2_with fail
                      refine (KN4.out _).mono ?_
                      rintro e w' ⟨rfl, rfl⟩
                      go_wp2_with fail
                      refine KPH.out.mono ?_
                      rintro e w' ⟨rfl, rfl⟩
                      simp only [pv, pe]
                      go_wp2_with (first
                        | ((with_reducible refine go_built 39 _ #[.int .i64 2, .int .i64 v, .int .i64 k, .string ⟨#[]⟩] (by with_unfolding_all kernel_rfl) ?_))
                        | ((with_reducible refine go_tok1 (.tmp 89) _ _ _ _ (by with_unfolding_all rfl) ?_))
                        | ((with_reducible refine go_append1 (.tmp 86) (.tmp 90) ts ⟨2, v, k, []⟩ (wo.heap.size) (by with_unfolding_all rfl) (HOWN.out.alloc _) (by with_unfolding_all rfl) (by with_unfolding_all exact Blk.new wo _ _) (by omega) (by simp; omega) ?_); intro v' w2 hown2 hgrow; have bel2 : Below w.heap.size w w2 := (bel.alloc bel.size _).trans (below_of_grown hgrow (by simp; omega) (fun k e => ((HOWN.out).lt k e).1)); have FF := Lib.hid (And.intro hown2 bel2); clear hown2 hgrow bel2))
                      go_roundw
                      case rel => exact ⟨j, ts ++ [⟨2, v, k, []⟩], by omega, by rw [List.length_append]; simp; omega, rfl, FF.out.1, HJ.out, FF.out.2⟩
                      case measure => simp [intOf]; omega
    · have d1 : decide (k < s.size) = false := by simpa using hlt
      have R := Lib.hid (j_end hj (by omega))
      clear hj hown
      go_wp2_with fail
      go_ret3
      exact fin_ok R.out HOWN.out bel
end Go.Proofs.YtiphekdahmiaeaaDoor

/-
  lex.Tokens: the tokens of a line, or the offset of the first error. Any line of at most 1,000,000 bytes.
-/
import Derived.Test.YtiphekdahmiaeaaDoorStep05
import Derived.WalkMore
namespace Go.Proofs.YtiphekdahmiaeaaDoor
open Go Go.RowKit
set_option linter.unusedVariables false
attribute [local go_sem ↓] ix_run

section
variable {s : ByteArray} {k m : Nat} {ts : List TokL}
theorem j_skip (h : lexT (bl s) 0 = Res.join ts (lexT ((bl s).drop k) k)) (hs : stepL ((bl s).drop k) = some (none, m)) : lexT (bl s) 0 = Res.join ts (lexT ((bl s).drop (k + m)) (k + m)) := by
  rw [h, lexT_skip hs, List.drop_drop]
theorem j_tok {kd n : Int} {tx : List UInt8} (h : lexT (bl s) 0 = Res.join ts (lexT ((bl s).drop k) k)) (hs : stepL ((bl s).drop k) = some (some (kd, n, tx), m)) : lexT (bl s) 0 = Res.join (ts ++ [⟨kd, n, k, tx⟩]) (lexT ((bl s).drop (k + m)) (k + m)) := by
  rw [h, lexT_tok hs, List.drop_drop, Res.join_join]
theorem j_bad (h : lexT (bl s) 0 = Res.join ts (lexT ((bl s).drop k) k)) (hk : k < s.size) (hs : stepL ((bl s).drop k) = none) : lexT (bl s) 0 = .bad k := by
  rw [h, lexT_bad (fun e => by have := congrArg List.length e; rw [List.length_drop, bl_len] at this; simp at this; omega) hs]
  rfl
theorem j_end (h : lexT (bl s) 0 = Res.join ts (lexT ((bl s).drop k) k)) (hk : s.size ≤ k) : lexT (bl s) 0 = .ok ts := by
  rw [h, List.drop_eq_nil_of_le (by rw [bl_len]; exact hk), lexT_nil]
  simp [Res.join]
end
theorem index_any (s : ByteArray) (c : Int) (w : World) : Calls Tryd.prog 29 #[.string s, .int .u8 c] w fun e w' => e = .returned (.int .i64 (Lib.indexByte s.data.toList c.toNat.toUInt8)) ∧ w = w' := (Tryd.strings_IndexByte s c w).mono fun _ _ h => ⟨h.1, h.2.symm⟩
theorem mkB_size (l : List UInt8) : (mkB l).size = l.length := by rw [← bl_len, bl_mkB]
theorem mkB_ne {l : List UInt8} (h : l ≠ []) : ¬ (mkB l).toList = [] ∧ ((mkB l).toList == []) = false ∧ (mkB l).toList.isEmpty = false := by
  rw [toList_bl, bl_mkB]
  cases l with
  | nil => exact absurd rfl h
  | cons c r => exact ⟨by simp, rfl, rfl⟩
theorem one_extract (s : ByteArray) (k : Nat) : mkB (((bl s).drop k).take 1) = s.extract k (k + 1) := by rw [extract_mkB, Nat.add_sub_cancel_left]
set_option maxRecDepth 100000 in
set_option maxHeartbeats 4000000 in
theorem tokens_any (s : ByteArray) (hs : s.size ≤ 1000000) (w : World) (hN : NamesIs w) (hw0 : 0 < w.heap.size) : Calls Tryd.prog 14 #[.string s] w (TokPost (lexT (bl s) 0) s.size w) := by
  go_enter Tryd.func14, Tryd.ntmps14
  go_wp2_with fail
  go_step3
  go_wp2_with fail
  go_step3
  go_wp2_with fail
  go_loopw [5, 6] (fun s5 s6 wr => ∃ (k : Nat) (ts : List TokL), k ≤ s.size ∧ ts.length ≤ k ∧ s6 = .int .i64 k ∧ wr.ownsRow w.heap.size 39 4 s5 ts.length (toksC ts) ∧ lexT (bl s) 0 = Res.join ts (lexT ((bl s).drop k) k) ∧ Below w.heap.size w wr)
    (fun _ s6 _ => s.size - (intOf s6).toNat)
  case atStart => exact ⟨0, [], by omega, by simp, rfl, World.ownsRow_nil _ _ _ _, by rw [Res.join_nil]; rfl, Below.refl _ _⟩
  case round =>
    obtain ⟨k, ts, hk, hts, rfl, hown, hj, bel⟩ := hrel
    have hNr := hN.below bel hw0
    have hsz := bel.size
    have k0 : (0 : Int) ≤ (k : Int) := by omega
    have HOWN := Lib.hid hown
    by_cases hlt : k < s.size
    · have d1 : decide (k < s.size) = true := by simpa using hlt
      have hcb := byt_bd s k
      have HW := Lib.hid hlt
      by_cases hb : blankB (byt s k) = true
      · have KB := Lib.hid (blank_sep s k hlt hs hb wr)
        have HJ := Lib.hid (j_skip hj (st_blank hlt hb))
        have d2 : decide ((k : Int) < (k : Int) + 1) = true := by simp; omega
        clear hb hj hown
        go_wp2_with fail
        refine KB.out.mono ?_
        rintro e w' ⟨rfl, rfl⟩
        go_wp2_with fail
        go_roundw
        case rel => exact ⟨k + 1, ts, by omega, by omega, by go_num, HOWN.out, HJ.out, bel⟩
        case measure => simp [intOf]; omega
      · have hb : blankB (byt s k) = false := by simpa using hb
        by_cases h59 : byt s k = 59
        · have KB := Lib.hid (blank_semi s k hlt hs h59 wr)
          have hj' := j_skip hj (st_semi hlt h59)
          rw [show k + (s.size - k) = s.size by omega] at hj'
          have HJ := Lib.hid hj'
          clear hb hj hown h59 hj'
          go_wp2_with fail
          refine KB.out.mono ?_
          rintro e w' ⟨rfl, rfl⟩
          go_wp2_with fail
          go_roundw
          case rel => exact ⟨s.size, ts, by omega, by omega, rfl, HOWN.out, HJ.out, bel⟩
          case measure => simp [intOf]; omega
        · by_cases h40 : byt s k = 40
          · have hst := st_par hlt h40
            by_cases hi : Lib.indexByte ((bl s).drop k) 41 = -1
            · have KB := Lib.hid (blank_no s k hlt hs h40 hi wr)
              rw [if_pos hi] at hst
              have R := Lib.hid (j_bad hj hlt hst)
              clear hb hj hown h59 h40 hi hst
              go_wp2_with fail
              refine KB.out.mono ?_
              rintro e w' ⟨rfl, rfl⟩
              go_wp2_with fail
              go_ret3
              exact fin_bad R.out bel
            · have hge := Lib.indexByte_ge ((bl s).drop k) 41
              have hlt2 := idx_bd hi
              obtain ⟨o, ho⟩ : ∃ o : Nat, Lib.indexByte ((bl s).drop k) 41 = o := ⟨(Lib.indexByte ((bl s).drop k) 41).toNat, by omega⟩
              rw [List.length_drop, bl_len, ho] at hlt2
              have KB := Lib.hid (blank_yes s k hlt hs h40 o ho (by simp at hlt2; omega) wr)
              rw [if_neg hi, ho] at hst
              have hj' := j_skip hj hst
              rw [show (o : Int).toNat = o by omega, ← Nat.add_assoc] at hj'
              have hol : k + o < s.size := by simp at hlt2; omega
              have HJ := Lib.hid hj'
              have d2 : decide ((k : Int) < (k : Int) + o + 1) = true := by simp; omega
              clear hb hj hown h59 h40 hi hst ho hge hlt2 hj'
              go_wp2_with fail
              refine KB.out.mono ?_
              rintro e w' ⟨rfl, rfl⟩
              go_wp2_with fail
              go_roundw
              case rel => exact ⟨k + o + 1, ts, by omega, by omega, by go_num, HOWN.out, HJ.out, bel⟩
              case measure => simp [intOf]; omega
          · have KB := Lib.hid (blank_else s k hlt hs hb h59 h40 wr)
            have eX : bl (s.extract k s.size) = (bl s).drop k := by rw [bl_extract, List.take_of_length_le (by rw [List.length_drop, bl_len]; omega)]
            have KL0 := longest_any (s.extract k s.size) (by rw [ByteArray.size_extract]; omega) wr hNr
            rw [eX] at KL0
            have KL := Lib.hid KL0
            have KN := fun W => numeric_any (byt s k) W
            have hwb : IntKind.i64.wrap (byt s k) = byt s k := by rw [IntKind.wrap_i64]; omega
            have k1 : (k : Int) ≤ (s.size : Int) := by omega
            clear KL0 eX
            cases hn : numB (byt s k)
            · simp only [hn] at KN
              have KNH := Lib.hid KN
              cases hl : lettB (byt s k)
              · have hst := st_sgn hlt hn hl hb h59 h40
                have hlg := longest_none hlt hl
                have LG := Lib.hid hlg
                have KLX := KL.out
                rw [hlg, show mkB [] = ⟨#[]⟩ from rfl] at KLX
                have KLY := Lib.hid KLX
                have hlB : (decide (65 ≤ byt s k) = true ∧ decide (byt s k ≤ 90) = false) ∨ decide (65 ≤ byt s k) = false := by
                  unfold lettB at hl
                  simp at hl ⊢
                  omega
                have KI := index_any ⟨#[43, 45, 42, 47, 61, 35, 91, 93]⟩ (byt s k) wr
                have hge := Lib.indexByte_ge [43, 45, 42, 47, 61, 35, 91, 93] (byt s k).toNat.toUInt8
                have hsi := sgn_idx (byt s k) hcb.1 hcb.2
                have e8 : (⟨#[43, 45, 42, 47, 61, 35, 91, 93]⟩ : ByteArray).data.toList = [43, 45, 42, 47, 61, 35, 91, 93] := rfl
                rw [e8] at KI
                generalize Lib.indexByte [43, 45, 42, 47, 61, 35, 91, 93] (byt s k).toNat.toUInt8 = ii at *
                have KI := Lib.hid KI
                cases hsg : sgnB (byt s k)
                · have hii := hsi.2 hsg
                  rw [hsg, if_neg (by simp)] at hst
                  have R := Lib.hid (j_bad hj hlt hst)
                  subst hii
                  clear hb hj hown h59 h40 hst hsg hl hn KN KLX hlg hge hsi e8 KL
                  rcases hlB with ⟨q1, q2⟩ | q1
                  all_goals
                    go_wp2_with fail
                    refine KB.out.mono ?_
                    rintro e w' ⟨rfl, rfl⟩
                    go_wp2_with fail
                    refine KLY.out.mono ?_
                    rintro e w' ⟨rfl, rfl⟩
                    go_wp2_with fail
                    refine (KNH.out _).mono ?_
                    rintro e w' ⟨rfl, rfl⟩
                    go_wp2_with fail
                    refine KI.out.mono ?_
                    rintro e w' ⟨rfl, rfl⟩
                    go_wp2_with fail
                    go_ret3
                    exact fin_bad R.out bel
                · have hii : 0 ≤ ii := by
                    have : ii ≠ -1 := fun e => by rw [hsi.1 e] at hsg; cases hsg
                    omega
                  rw [hsg, if_pos rfl] at hst
                  have HJ := Lib.hid (j_tok hj hst)
                  have di : decide (0 ≤ ii) = true := by simpa using hii
                  have ES := Lib.hid (one_extract s k)
                  have s2 : (k : Int) + 1 ≤ (s.size : Int) := by omega
                  have s3 : ((k : Int) + 1).toNat = k + 1 := by omega
                  clear hb hj hown h59 h40 hst hsg hl hn KN KLX hlg hge hsi e8 KL
                  rcases hlB with ⟨q1, q2⟩ | q1
                  all_goals
                    go_wp2_with fail
                    refine KB.out.mono ?_
                    rintro e w' ⟨rfl, rfl⟩
                    go_wp2_with fail
                    refine KLY.out.mono ?_
                    rintro e w' ⟨rfl, rfl⟩
                    go_wp2_with fail
                    refine (KNH.out _).mono ?_
                    rintro e w' ⟨rfl, rfl⟩
                    go_wp2_with fail
                    refine KI.out.mono ?_
                    rintro e w' ⟨rfl, rfl⟩
                    go_wp2_with (first
                      | ((with_reducible refine go_built 39 _ #[.int .i64 4, .int .i64 0, .int .i64 k, .string (s.extract k (k + 1))] (by with_unfolding_all kernel_rfl) ?_))
                      | ((with_reducible refine go_tok1 (.tmp 95) _ _ _ _ (by with_unfolding_all rfl) ?_))
                      | ((with_reducible refine go_append1 (.tmp 88) (.tmp 96) ts ⟨4, 0, k, ((bl s).drop k).take 1⟩ (wr.heap.size) (by with_unfolding_all rfl) (HOWN.out.alloc _) (by with_unfolding_all rfl) (by unfold tokC; rw [ES.out]; with_unfolding_all exact Blk.new wr _ _) (by omega) (by simp; omega) ?_); intro v' w2 hown2 hgrow; have bel2 : Below w.heap.size w w2 := ((bel.alloc bel.size _)).trans (below_of_grown hgrow (by simp; omega) (fun k e => ((HOWN.out).lt k e).1)); have FF := Lib.hid (And.intro hown2 bel2); clear hown2 hgrow bel2))
                    go_roundw
                    case rel => exact ⟨k + 1, ts ++ [⟨4, 0, k, ((bl s).drop k).take 1⟩], by omega, by rw [List.length_append]; simp; omega, by go_num, FF.out.1, HJ.out, FF.out.2⟩
                    case measure => simp [intOf]; omega
              · have hst := st_lett hlt hl
                have q1 : decide (65 ≤ byt s k) = true := by unfold lettB at hl; simp at hl ⊢; omega
                have q2 : decide (byt s k ≤ 90) = true := by unfold lettB at hl; simp at hl ⊢; omega
                by_cases hlg : longest ((bl s).drop k) = []
                · rw [if_pos hlg] at hst
                  have HJ := Lib.hid (j_tok hj hst)
                  have KLX := KL.out
                  rw [hlg, show mkB [] = ⟨#[]⟩ from rfl] at KLX
                  have KLY := Lib.hid KLX
                  clear hb hj hown h59 h40 hst hl hn KN KLX hlg KL
                  go_wp2_with fail
                  refine KB.out.mono ?_
                  rintro e w' ⟨rfl, rfl⟩
                  go_wp2_with fail
                  refine KLY.out.mono ?_
                  rintro e w' ⟨rfl, rfl⟩
                  go_wp2_with fail
                  refine (KNH.out _).mono ?_
                  rintro e w' ⟨rfl, rfl⟩
                  go_wp2_with (first
                    | ((with_reducible refine go_built 39 _ #[.int .i64 1, .int .i64 (byt s k), .int .i64 k, .string ⟨#[]⟩] (by with_unfolding_all kernel_rfl) ?_))
                    | ((with_reducible refine go_tok1 (.tmp 81) _ _ _ _ (by with_unfolding_all rfl) ?_))
                    | ((with_reducible refine go_append1 (.tmp 77) (.tmp 82) ts ⟨1, byt s k, k, []⟩ (wr.heap.size) (by with_unfolding_all rfl) (HOWN.out.alloc _) (by with_unfolding_all rfl) (by with_unfolding_all exact Blk.new wr _ _) (by omega) (by simp; omega) ?_); intro v' w2 hown2 hgrow; have bel2 : Below w.heap.size w w2 := ((bel.alloc bel.size _)).trans (below_of_grown hgrow (by simp; omega) (fun k e => ((HOWN.out).lt k e).1)); have FF := Lib.hid (And.intro hown2 bel2); clear hown2 hgrow bel2))
                  go_roundw
                  case rel => exact ⟨k + 1, ts ++ [⟨1, byt s k, k, []⟩], by omega, by rw [List.length_append]; simp; omega, by go_num, FF.out.1, HJ.out, FF.out.2⟩
                  case measure => simp [intOf]; omega
                · rw [if_neg hlg] at hst
                  have HJ := Lib.hid (j_tok hj hst)
                  obtain ⟨z1, z2, z3⟩ := mkB_ne hlg
                  have hle : k + (longest ((bl s).drop k)).length ≤ s.size := by
                    have := (longest_prefix ((bl s).drop k)).length_le
                    rw [List.length_drop, bl_len] at this
                    omega
                  have hms := mkB_size (longest ((bl s).drop k))
                  have hl0 : 0 < (longest ((bl s).drop k)).length := by
                    rcases Nat.eq_zero_or_pos (longest ((bl s).drop k)).length with e | e
                    · exact absurd (List.length_eq_zero_iff.1 e) hlg
                    · exact e
                  have hle' : (k : Int) + ((mkB (longest ((bl s).drop k))).size : Int) ≤ 1000000 := by rw [hms]; omega
                  have KLX := KL.out
                  generalize longest ((bl s).drop k) = nm at *
                  have KLY := Lib.hid KLX
                  have MS := Lib.hid hms
                  have HL0 := Lib.hid hl0
                  clear hb hj hown h59 h40 hst hl hn KN KLX hlg KL hms
                  go_wp2_with fail
                  refine KB.out.mono ?_
                  rintro e w' ⟨rfl, rfl⟩
                  go_wp2_with fail
                  refine KLY.out.mono ?_
                  rintro e w' ⟨rfl, rfl⟩
                  go_wp2_with fail
                  refine (KNH.out _).mono ?_
                  rintro e w' ⟨rfl, rfl⟩
                  go_wp2_with (first
                    | ((with_reducible refine go_built 39 _ #[.int .i64 3, .int .i64 0, .int .i64 k, .string (mkB nm)] (by with_unfolding_all kernel_rfl) ?_))
                    | ((with_reducible refine go_tok1 (.tmp 63) _ _ _ _ (by with_unfolding_all rfl) ?_))
                    | ((with_reducible refine go_append1 (.tmp 60) (.tmp 64) ts ⟨3, 0, k, nm⟩ (wr.heap.size) (by with_unfolding_all rfl) (HOWN.out.alloc _) (by with_unfolding_all rfl) (by with_unfolding_all exact Blk.new wr _ _) (by omega) (by simp; omega) ?_); intro v' w2 hown2 hgrow; have bel2 : Below w.heap.size w w2 := ((bel.alloc bel.size _)).trans (below_of_grown hgrow (by simp; omega) (fun k e => ((HOWN.out).lt k e).1)); have FF := Lib.hid (And.intro hown2 bel2); clear hown2 hgrow bel2))
                  go_roundw
                  case rel => exact ⟨k + nm.length, ts ++ [⟨3, 0, k, nm⟩], by omega, by have := HL0.out; rw [List.length_append]; simp; omega, by first | go_num | (rw [MS.out]; go_num), FF.out.1, HJ.out, FF.out.2⟩
                  case measure => have := HL0.out; have := MS.out; simp [intOf]; omega
            · simp only [hn] at KN
              have KNH := Lib.hid KN
              have hst := st_num hlt hb h59 h40 hn
              have KM := Lib.hid (number_any s k hk hs wr)
              obtain ⟨r, er⟩ : ∃ r, parseF (numT s k) = r := ⟨_, rfl⟩
              rw [er] at hst
              have ER := Lib.hid er
              have hE := numE_le s k hk
              have hE0 : k < numE s k := by unfold numE numT; rw [num_len_yes s k hlt hn]; omega
              cases r with
              | none =>
                have R := Lib.hid (j_bad hj hlt hst)
                clear hb hj hown h59 h40 hst hn KN er
                go_wp2_with fail
                refine KB.out.mono ?_
                rintro e w' ⟨rfl, rfl⟩
                go_wp2_with fail
                refine KL.out.mono ?_
                rintro e w' ⟨rfl, rfl⟩
                go_wp2_with fail
                refine (KNH.out _).mono ?_
                rintro e w' ⟨rfl, rfl⟩
                go_wp2_with fail
                refine KM.out.mono ?_
                rintro e w1 ⟨rfl, b1⟩
                rw [ER.out]
                simp only [pv, isS]
                have bel1 := bel.trans (b1.mono hsz)
                go_wp2_with fail
                go_ret3
                exact fin_bad R.out (bel1.alloc bel1.size _)
              | some v =>
                have hj' := j_tok hj hst
                have eE : k + (numT s k).length = numE s k := rfl
                rw [eE] at hj'
                have HJ := Lib.hid hj'
                clear hb hj hown h59 h40 hst hn KN er hj' eE
                go_wp2_with fail
                refine KB.out.mono ?_
                rintro e w' ⟨rfl, rfl⟩
                go_wp2_with fail
                refine KL.out.mono ?_
                rintro e w' ⟨rfl, rfl⟩
                go_wp2_with fail
                refine (KNH.out _).mono ?_
                rintro e w' ⟨rfl, rfl⟩
                go_wp2_with fail
                refine KM.out.mono ?_
                rintro e w1 ⟨rfl, b1⟩
                rw [ER.out]
                simp only [pv, isS]
                have bel1 := bel.trans (b1.mono hsz)
                have HOWN1 := Lib.hid ((HOWN.out).kept (grown_of_below b1) (Classical.em _))
                have hsz1 := b1.size
                go_wp2_with (first
                  | ((with_reducible refine go_built 39 _ #[.int .i64 2, .int .i64 v, .int .i64 k, .string ⟨#[]⟩] (by with_unfolding_all kernel_rfl) ?_))
                  | ((with_reducible refine go_tok1 (.tmp 53) _ _ _ _ (by with_unfolding_all rfl) ?_))
                  | ((with_reducible refine go_append1 (.tmp 52) (.tmp 54) ts ⟨2, v, k, []⟩ ((w1.alloc (.cells #[.int .i64 2, .int .i64 v, .int .i64 k, .string ⟨#[]⟩] 39)).heap.size) (by with_unfolding_all rfl) ((HOWN1.out.alloc _).alloc _) (by with_unfolding_all rfl) (by with_unfolding_all exact Blk.new _ _ _) (by omega) (by simp; omega) ?_); intro v' w2 hown2 hgrow; have bel2 : Below w.heap.size w w2 := (((bel1.alloc bel1.size _).alloc (by simp; omega) _)).trans (below_of_grown hgrow (by simp; omega) (fun k e => ((HOWN1.out).lt k e).1)); have FF := Lib.hid (And.intro hown2 bel2); clear hown2 hgrow bel2))
                go_roundw
                case rel => exact ⟨numE s k, ts ++ [⟨2, v, k, []⟩], by omega, by rw [List.length_append]; simp; omega, rfl, FF.out.1, HJ.out, FF.out.2⟩
                case measure => simp [intOf]; omega
    · have d1 : decide (k < s.size) = false := by simpa using hlt
      have R := Lib.hid (j_end hj (by omega))
      clear hj hown
      go_wp2_with fail
      go_ret3
      exact fin_ok R.out HOWN.out bel
end Go.Proofs.YtiphekdahmiaeaaDoor

/-
  canon.Parse: the list of a text, or why there is none. Any text of at most 1,000,000 bytes.
-/
import Derived.Test.YtefdjdipbnnoaaaGreatDoorItemP17
import Derived.Test.YtefdjdipbnnoaaaGreatDoorStageF17
namespace Go.Proofs.YtefdjdipbnnoaaaGreatDoor
open Go Go.RowKit
set_option linter.unusedVariables false
set_option linter.unusedSimpArgs false

theorem ne_of (T : ByteArray) (h : bl T ≠ []) : (T.toList != []) = true ∧ (T.toList == []) = false := by
  rw [toList_bl]
  exact ⟨bne_iff_ne.2 h, beq_eq_false_iff_ne.2 h⟩
theorem eq_of0 (T : ByteArray) (h : bl T = []) : (T.toList != []) = false ∧ (T.toList == []) = true := by
  rw [toList_bl, h]
  exact ⟨rfl, rfl⟩
theorem opn_byt (s : ByteArray) (h : 0 < s.size) : opn (bl s) = !(byt s (s.size - 1) == 10) := by
  have hne : bl s ≠ [] := fun e => by have := congrArg List.length e; have h2 : s.size = 0 := (bl_len s).symm.trans this; omega
  have hl : (bl s).length = s.size := bl_len s
  have h1 : (bl s).getLast? = some ((bl s).getD (s.size - 1) 0) := by
    rw [List.getLast?_eq_getElem?, hl, List.getD_eq_getElem?_getD, List.getElem?_eq_getElem (by omega)]
    rfl
  unfold opn byt
  rw [decide_eq_true hne, Bool.true_and, h1]
  generalize (bl s).getD (s.size - 1) 0 = c
  by_cases hc : c = 10
  · subst hc; rfl
  · have h2 : ((c.toNat : Int) == 10) = false := beq_eq_false_iff_ne.2 (fun e => hc (UInt8.toNat_inj.1 (by show c.toNat = 10; omega)))
    rw [h2]
    simp [hc]
/-- A list, a number and an error; the list lies in new memory. -/
def ParsePost (r : List It × Int × Int) (w : World) (e : Ending) (w' : World) : Prop :=
  ∃ v, e = .returned (.tuple #[v, .int .i64 r.2.1, .int .i64 r.2.2]) ∧ w'.ownsRow w.heap.size 25 22 v r.1.length (itsC r.1) ∧ Below w.heap.size w w'
theorem ParsePost.nil {r : List It × Int × Int} {w w' : World} (x y : Int) (hr : r = ([], x, y)) (hb : Below w.heap.size w w') {e : Ending} (he : e = .returned (.tuple #[.slice none 0 0, .int .i64 x, .int .i64 y])) : ParsePost r w e w' := by
  subst hr
  exact ⟨_, he, World.ownsRow_nil _ _ _ _, hb⟩
set_option maxRecDepth 100000 in
set_option maxHeartbeats 4000000 in
theorem parse_any (s : ByteArray) (hs : s.size ≤ 1000000) (w : World) (hE : EnvP w) : Calls Tryz.prog 19 #[.string s] w (ParsePost (parseT (bl s)) w) := by
  have hlow := hE.low
  have HE0 := Lib.hid hE
  have KCT := count_run 10 s w
  have hcnt := lns_count (bl s).length (bl s) (Nat.le_refl _)
  obtain ⟨C, hC⟩ : ∃ C, (bl s).count 10 = C := ⟨_, rfl⟩
  rw [hC] at KCT hcnt
  have KCT := Lib.hid KCT
  have hCl : C ≤ 1000000 := by rw [← hC]; exact Nat.le_trans List.count_le_length (by rw [bl_len]; exact hs)
  have HPA : ¬ 20000 < (lnsF (bl s)).1.length → Hid (parseT (bl s) = parseA [] (bl s)) := fun h => Lib.hid (by unfold parseT; rw [if_neg h])
  have HPB : 20000 < (lnsF (bl s)).1.length → Hid (parseT (bl s) = ([], 0, 10)) := fun h => Lib.hid (by unfold parseT; rw [if_pos h])
  rw [← hcnt] at HPA HPB
  clear hE hC hcnt
  by_cases h0 : bl s = []
  · obtain ⟨d1, d2⟩ := eq_of0 s h0
    have ho : opn (bl s) = false := by rw [h0]; rfl
    rw [ho] at HPA HPB
    simp only [Bool.false_eq_true, if_false, Nat.add_zero] at HPA HPB
    clear h0 ho
    by_cases hb : 20000 < C
    · have RB := HPB hb
      have e1 : decide (20000 < (C : Int)) = true := decide_eq_true (by omega)
      have e2 : decide (20000 < C) = true := decide_eq_true hb
      clear HPA HPB
      go_enter Tryz.func19, Tryz.ntmps19
      go_wp2_with fail
      refine KCT.out.mono ?_
      rintro e w1 ⟨rfl, rfl⟩
      go_wp2_with fail
      go_ret3
      exact ParsePost.nil 0 10 RB.out (Below.refl _ _) rfl
    · have HPT := HPA hb
      have e1 : decide (20000 < (C : Int)) = false := decide_eq_false (by omega)
      have e2 : decide (20000 < C) = false := decide_eq_false hb
      clear HPA HPB
      go_enter Tryz.func19, Tryz.ntmps19
      go_wp2_with fail
      refine KCT.out.mono ?_
      rintro e w1 ⟨rfl, rfl⟩
      go_wp2_with fail
      go_loopw [0, 6] (fun s0 s6 wr => ∃ (T : ByteArray) (acc : List It) (v6 : Value), v6 = s6 ∧ s0 = .string T ∧ acc.length + T.size ≤ s.size ∧ parseA [] (bl s) = parseA acc (bl T) ∧ wr.ownsRow w.heap.size 25 22 v6 acc.length (itsC acc) ∧ Below w.heap.size w wr)
        (fun s0 _ _ => match s0 with | .string T => T.size | _ => 0)
      case atStart => exact ⟨s, [], _, rfl, rfl, by simp, rfl, World.ownsRow_nil _ _ _ _, Below.refl _ _⟩
      case round =>
        obtain ⟨T, acc, v6, rfl, rfl, hET, hp, hown, bel⟩ := hrel
        have hE := HE0.out.below bel hlow
        have hlowr : 9 ≤ wr.heap.size := hE.low
        have hszw := bel.size
        by_cases hT : bl T = []
        · obtain ⟨d1, d2⟩ := eq_of0 T hT
          rw [hT, parseA_nil] at hp
          have R := Lib.hid (HPT.out.trans hp)
          have HOWN := Lib.hid hown
          have BEL := Lib.hid bel
          obtain ⟨a5, c5, rfl, _, _⟩ := its_own hown
          clear hown hp bel hE hT
          go_wp2_with fail
          go_ret3
          exact ⟨.slice a5 acc.length c5, by rw [R.out]; rfl, by rw [R.out]; exact HOWN.out, BEL.out⟩
        · obtain ⟨d1, d2⟩ := ne_of T hT
          have KC := Lib.hid (cut_run T (by omega) wr hE)
          have HOWN := Lib.hid hown
          have HE2 := Lib.hid hE
          have BEL := Lib.hid bel
          have HP := Lib.hid (HPT.out.trans hp)
          have HP0 := Lib.hid hp
          have HT := Lib.hid hT
          clear hown hE bel hp hT
          go_wp2_with fail
          refine KC.out.mono ?_
          rintro e w2 ⟨⟨A, B, hcase⟩, b2⟩
          have hsz2 := b2.size
          have HOWN2 := Lib.hid (HOWN.out.kept (grown_of_below b2) (Classical.em _))
          have HE3 := Lib.hid (HE2.out.below b2 hlowr)
          have BEL2 := Lib.hid (BEL.out.trans (b2.mono hszw))
          clear b2 HOWN HE2 BEL KC
          rcases hcase with ⟨hc, rfl⟩ | ⟨hc, rfl⟩
          · have hlen := cut_less hc
            rw [bl_len] at hlen
            have KL := item_any (mkB A) (by rw [mkB_size]; omega) w2 HE3.out
            rw [bl_mkB] at KL
            have KL := Lib.hid KL
            have HC := Lib.hid hc
            clear hc
            go_wp2_with fail
            refine KL.out.mono ?_
            rintro e w3 ⟨t, ok, rfl, hline, b3⟩
            have hsz3 := b3.size
            have HOWN3 := Lib.hid (HOWN2.out.kept (grown_of_below b3) (Classical.em _))
            have BEL3 := Lib.hid (BEL2.out.trans (b3.mono (by omega)))
            clear b3 HOWN2 HE3 BEL2 KL
            obtain ⟨W5, hW5⟩ : ∃ W, (w3.alloc (.cells (itA zeroI) 25)).setRow w3.heap.size (itA t) = W := ⟨_, rfl⟩
            have A5 : ItAt W5 w3.heap.size t := by rw [← hW5]; exact ItAt.row (ItAt.new w3 zeroI) _
            have O5 : W5.ownsRow w.heap.size 25 22 v6 acc.length (itsC acc) := by
              rw [← hW5]
              exact own_grown2 HOWN3.out (grown_setRow (grown_alloc (grown_refl _ none) _) (.inr (Nat.le_refl _)) _)
            have B5 : Below w.heap.size w W5 := by rw [← hW5]; exact below_row (BEL3.out.alloc (by omega) _) (by omega) _
            have A5 := Lib.hid A5
            have O5 := Lib.hid O5
            have B5 := Lib.hid B5
            go_upto_region 10 with (first
              | ((with_reducible refine go_allocI ?_))
              | ((with_reducible refine go_storeI (.tmp 10) (.tmp 39) w3.heap.size t zeroI (by with_unfolding_all rfl) (by with_unfolding_all rfl) (ItAt.new _ _) ?_)))
            try rw [hW5]
            clear hW5 HOWN3 BEL3
            cases ok
            · have R := Lib.hid (HP.out.trans (parseA_bad HC.out (by simpa using hline)))
              obtain ⟨a5, c5, rfl, _, _⟩ := its_own O5.out
              clear hline HP HP0 HC
              go_wp2_with fail
              go_ret3
              exact ParsePost.nil _ 2 R.out B5.out rfl
            · have R := Lib.hid (HP0.out.trans (parseA_item HC.out (by simpa using hline)))
              have HN := Lib.hid (show acc.length ≤ 1000000 by omega)
              have sz5 := B5.out.size
              clear hline HP HP0 HC
              go_wp2_with (first
                | ((with_reducible refine go_loadI (.tmp 10) w3.heap.size t (by with_unfolding_all rfl) A5.out ?_))
                | ((with_reducible refine go_it1 (.tmp 50) t (by with_unfolding_all rfl) ?_))
                | ((with_reducible refine go_itapp (.tmp 49) (.tmp 51) acc t _ (by with_unfolding_all rfl) (O5.out.alloc _) (by with_unfolding_all rfl) (by with_unfolding_all exact ItAt.new W5 t) HN.out (by simp; omega) ?_); intro v' w6 hown6 hgrow; have bel6 : Below w.heap.size w w6 := (B5.out.alloc (by omega) _).trans (below_of_grown hgrow (by simp; omega) (fun k e => ((O5.out).lt k e).1)); have FF := Lib.hid (And.intro hown6 bel6); clear hown6 bel6 hgrow))
              exact ⟨⟨mkB B, acc ++ [t], _, rfl, rfl, by rw [List.length_append, mkB_size]; simp; omega, by rw [bl_mkB]; exact R.out, FF.out.1, FF.out.2⟩, by show (mkB B).size < T.size; rw [mkB_size]; omega⟩
          · have R := Lib.hid (HP.out.trans (parseA_none HT.out hc))
            have KL := Lib.hid (item_any T (by omega) w2 HE3.out)
            obtain ⟨a5, c5, rfl, _, _⟩ := its_own HOWN2.out
            clear hc HP HT HP0
            go_wp2_with fail
            refine KL.out.mono ?_
            rintro e w3 ⟨t, ok, rfl, hline, b3⟩
            have hsz3 := b3.size
            have BEL3 := Lib.hid (BEL2.out.trans (b3.mono (by omega)))
            clear b3 HE3 BEL2 KL hline HOWN2
            have B5 := Lib.hid (below_row (BEL3.out.alloc (by omega) (.cells (itA zeroI) 25)) (show w.heap.size ≤ w3.heap.size by omega) (itA t))
            cases ok
            all_goals
              go_wp2_with (first
                | ((with_reducible refine go_allocI ?_))
                | ((with_reducible refine go_storeI (.tmp 10) (.tmp 39) w3.heap.size t zeroI (by with_unfolding_all rfl) (by with_unfolding_all rfl) (ItAt.new _ _) ?_)))
              go_ret3
              exact ParsePost.nil _ 2 R.out B5.out rfl
  · obtain ⟨d1, d2⟩ := ne_of s h0
    have hsz : 0 < s.size := by
      rcases Nat.eq_zero_or_pos s.size with h | h
      · exact absurd (List.length_eq_zero_iff.1 (by rw [bl_len]; exact h)) h0
      · exact h
    have ho := opn_byt s hsz
    rw [ho] at HPA HPB
    have hix := ix_run s (s.size - 1) (by omega) w
    rw [show ((s.size - 1 : Nat) : Int) = (s.size : Int) - 1 by omega] at hix
    obtain ⟨bt, hbt⟩ : ∃ b, byt s (s.size - 1) = b := ⟨_, rfl⟩
    rw [hbt] at hix HPA HPB
    have x0 : (0 : Int) ≤ (s.size : Int) - 1 := by omega
    have x1 : (s.size : Int) - 1 < (s.size : Int) := by omega
    clear h0 ho hbt
    by_cases hl : bt = 10
    · have t10 : (bt == 10) = true := beq_iff_eq.2 hl
      have t10' : (bt != 10) = false := by unfold bne; rw [t10]; rfl
      rw [t10] at HPA HPB
      simp only [Bool.not_true, Bool.false_eq_true, if_false, Nat.add_zero] at HPA HPB
      clear hl
      by_cases hb : 20000 < C
      · have RB := HPB hb
        have e1 : decide (20000 < (C : Int)) = true := decide_eq_true (by omega)
        have e2 : decide (20000 < C) = true := decide_eq_true hb
        clear HPA HPB
        go_enter Tryz.func19, Tryz.ntmps19
        go_wp2_with fail
        refine KCT.out.mono ?_
        rintro e w1 ⟨rfl, rfl⟩
        go_wp2_with fail
        go_ret3
        exact ParsePost.nil 0 10 RB.out (Below.refl _ _) rfl
      · have HPT := HPA hb
        have e1 : decide (20000 < (C : Int)) = false := decide_eq_false (by omega)
        have e2 : decide (20000 < C) = false := decide_eq_false hb
        clear HPA HPB
        go_enter Tryz.func19, Tryz.ntmps19
        go_wp2_with fail
        refine KCT.out.mono ?_
        rintro e w1 ⟨rfl, rfl⟩
        go_wp2_with fail
        go_loopw [0, 6] (fun s0 s6 wr => ∃ (T : ByteArray) (acc : List It) (v6 : Value), v6 = s6 ∧ s0 = .string T ∧ acc.length + T.size ≤ s.size ∧ parseA [] (bl s) = parseA acc (bl T) ∧ wr.ownsRow w.heap.size 25 22 v6 acc.length (itsC acc) ∧ Below w.heap.size w wr)
          (fun s0 _ _ => match s0 with | .string T => T.size | _ => 0)
        case atStart => exact ⟨s, [], _, rfl, rfl, by simp, rfl, World.ownsRow_nil _ _ _ _, Below.refl _ _⟩
        case round =>
          obtain ⟨T, acc, v6, rfl, rfl, hET, hp, hown, bel⟩ := hrel
          have hE := HE0.out.below bel hlow
          have hlowr : 9 ≤ wr.heap.size := hE.low
          have hszw := bel.size
          by_cases hT : bl T = []
          · obtain ⟨d1, d2⟩ := eq_of0 T hT
            rw [hT, parseA_nil] at hp
            have R := Lib.hid (HPT.out.trans hp)
            have HOWN := Lib.hid hown
            have BEL := Lib.hid bel
            obtain ⟨a5, c5, rfl, _, _⟩ := its_own hown
            clear hown hp bel hE hT
            go_wp2_with fail
            go_ret3
            exact ⟨.slice a5 acc.length c5, by rw [R.out]; rfl, by rw [R.out]; exact HOWN.out, BEL.out⟩
          · obtain ⟨d1, d2⟩ := ne_of T hT
            have KC := Lib.hid (cut_run T (by omega) wr hE)
            have HOWN := Lib.hid hown
            have HE2 := Lib.hid hE
            have BEL := Lib.hid bel
            have HP := Lib.hid (HPT.out.trans hp)
            have HP0 := Lib.hid hp
            have HT := Lib.hid hT
            clear hown hE bel hp hT
            go_wp2_with fail
            refine KC.out.mono ?_
            rintro e w2 ⟨⟨A, B, hcase⟩, b2⟩
            have hsz2 := b2.size
            have HOWN2 := Lib.hid (HOWN.out.kept (grown_of_below b2) (Classical.em _))
            have HE3 := Lib.hid (HE2.out.below b2 hlowr)
            have BEL2 := Lib.hid (BEL.out.trans (b2.mono hszw))
            clear b2 HOWN HE2 BEL KC
            rcases hcase with ⟨hc, rfl⟩ | ⟨hc, rfl⟩
            · have hlen := cut_less hc
              rw [bl_len] at hlen
              have KL := item_any (mkB A) (by rw [mkB_size]; omega) w2 HE3.out
              rw [bl_mkB] at KL
              have KL := Lib.hid KL
              have HC := Lib.hid hc
              clear hc
              go_wp2_with fail
              refine KL.out.mono ?_
              rintro e w3 ⟨t, ok, rfl, hline, b3⟩
              have hsz3 := b3.size
              have HOWN3 := Lib.hid (HOWN2.out.kept (grown_of_below b3) (Classical.em _))
              have BEL3 := Lib.hid (BEL2.out.trans (b3.mono (by omega)))
              clear b3 HOWN2 HE3 BEL2 KL
              obtain ⟨W5, hW5⟩ : ∃ W, (w3.alloc (.cells (itA zeroI) 25)).setRow w3.heap.size (itA t) = W := ⟨_, rfl⟩
              have A5 : ItAt W5 w3.heap.size t := by rw [← hW5]; exact ItAt.row (ItAt.new w3 zeroI) _
              have O5 : W5.ownsRow w.heap.size 25 22 v6 acc.length (itsC acc) := by
                rw [← hW5]
                exact own_grown2 HOWN3.out (grown_setRow (grown_alloc (grown_refl _ none) _) (.inr (Nat.le_refl _)) _)
              have B5 : Below w.heap.size w W5 := by rw [← hW5]; exact below_row (BEL3.out.alloc (by omega) _) (by omega) _
              have A5 := Lib.hid A5
              have O5 := Lib.hid O5
              have B5 := Lib.hid B5
              go_upto_region 10 with (first
                | ((with_reducible refine go_allocI ?_))
                | ((with_reducible refine go_storeI (.tmp 10) (.tmp 39) w3.heap.size t zeroI (by with_unfolding_all rfl) (by with_unfolding_all rfl) (ItAt.new _ _) ?_)))
              try rw [hW5]
              clear hW5 HOWN3 BEL3
              cases ok
              · have R := Lib.hid (HP.out.trans (parseA_bad HC.out (by simpa using hline)))
                obtain ⟨a5, c5, rfl, _, _⟩ := its_own O5.out
                clear hline HP HP0 HC
                go_wp2_with fail
                go_ret3
                exact ParsePost.nil _ 2 R.out B5.out rfl
              · have R := Lib.hid (HP0.out.trans (parseA_item HC.out (by simpa using hline)))
                have HN := Lib.hid (show acc.length ≤ 1000000 by omega)
                have sz5 := B5.out.size
                clear hline HP HP0 HC
                go_wp2_with (first
                  | ((with_reducible refine go_loadI (.tmp 10) w3.heap.size t (by with_unfolding_all rfl) A5.out ?_))
                  | ((with_reducible refine go_it1 (.tmp 50) t (by with_unfolding_all rfl) ?_))
                  | ((with_reducible refine go_itapp (.tmp 49) (.tmp 51) acc t _ (by with_unfolding_all rfl) (O5.out.alloc _) (by with_unfolding_all rfl) (by with_unfolding_all exact ItAt.new W5 t) HN.out (by simp; omega) ?_); intro v' w6 hown6 hgrow; have bel6 : Below w.heap.size w w6 := (B5.out.alloc (by omega) _).trans (below_of_grown hgrow (by simp; omega) (fun k e => ((O5.out).lt k e).1)); have FF := Lib.hid (And.intro hown6 bel6); clear hown6 bel6 hgrow))
                exact ⟨⟨mkB B, acc ++ [t], _, rfl, rfl, by rw [List.length_append, mkB_size]; simp; omega, by rw [bl_mkB]; exact R.out, FF.out.1, FF.out.2⟩, by show (mkB B).size < T.size; rw [mkB_size]; omega⟩
            · have R := Lib.hid (HP.out.trans (parseA_none HT.out hc))
              have KL := Lib.hid (item_any T (by omega) w2 HE3.out)
              obtain ⟨a5, c5, rfl, _, _⟩ := its_own HOWN2.out
              clear hc HP HT HP0
              go_wp2_with fail
              refine KL.out.mono ?_
              rintro e w3 ⟨t, ok, rfl, hline, b3⟩
              have hsz3 := b3.size
              have BEL3 := Lib.hid (BEL2.out.trans (b3.mono (by omega)))
              clear b3 HE3 BEL2 KL hline HOWN2
              have B5 := Lib.hid (below_row (BEL3.out.alloc (by omega) (.cells (itA zeroI) 25)) (show w.heap.size ≤ w3.heap.size by omega) (itA t))
              cases ok
              all_goals
                go_wp2_with (first
                  | ((with_reducible refine go_allocI ?_))
                  | ((with_reducible refine go_storeI (.tmp 10) (.tmp 39) w3.heap.size t zeroI (by with_unfolding_all rfl) (by with_unfolding_all rfl) (ItAt.new _ _) ?_)))
                go_ret3
                exact ParsePost.nil _ 2 R.out B5.out rfl
    · have t10 : (bt == 10) = false := beq_eq_false_iff_ne.2 hl
      have t10' : (bt != 10) = true := by unfold bne; rw [t10]; rfl
      rw [t10] at HPA HPB
      simp only [Bool.not_false, if_true] at HPA HPB
      clear hl
      by_cases hb : 20000 < C + 1
      · have RB := HPB hb
        have e1 : decide (20000 < (C : Int) + 1) = true := decide_eq_true (by omega)
        have e2 : decide (20000 < C + 1) = true := decide_eq_true hb
        clear HPA HPB
        go_enter Tryz.func19, Tryz.ntmps19
        go_wp2_with fail
        refine KCT.out.mono ?_
        rintro e w1 ⟨rfl, rfl⟩
        go_wp2_with fail
        go_ret3
        exact ParsePost.nil 0 10 RB.out (Below.refl _ _) rfl
      · have HPT := HPA hb
        have e1 : decide (20000 < (C : Int) + 1) = false := decide_eq_false (by omega)
        have e2 : decide (20000 < C + 1) = false := decide_eq_false hb
        clear HPA HPB
        go_enter Tryz.func19, Tryz.ntmps19
        go_wp2_with fail
        refine KCT.out.mono ?_
        rintro e w1 ⟨rfl, rfl⟩
        go_wp2_with fail
        go_loopw [0, 6] (fun s0 s6 wr => ∃ (T : ByteArray) (acc : List It) (v6 : Value), v6 = s6 ∧ s0 = .string T ∧ acc.length + T.size ≤ s.size ∧ parseA [] (bl s) = parseA acc (bl T) ∧ wr.ownsRow w.heap.size 25 22 v6 acc.length (itsC acc) ∧ Below w.heap.size w wr)
          (fun s0 _ _ => match s0 with | .string T => T.size | _ => 0)
        case atStart => exact ⟨s, [], _, rfl, rfl, by simp, rfl, World.ownsRow_nil _ _ _ _, Below.refl _ _⟩
        case round =>
          obtain ⟨T, acc, v6, rfl, rfl, hET, hp, hown, bel⟩ := hrel
          have hE := HE0.out.below bel hlow
          have hlowr : 9 ≤ wr.heap.size := hE.low
          have hszw := bel.size
          by_cases hT : bl T = []
          · obtain ⟨d1, d2⟩ := eq_of0 T hT
            rw [hT, parseA_nil] at hp
            have R := Lib.hid (HPT.out.trans hp)
            have HOWN := Lib.hid hown
            have BEL := Lib.hid bel
            obtain ⟨a5, c5, rfl, _, _⟩ := its_own hown
            clear hown hp bel hE hT
            go_wp2_with fail
            go_ret3
            exact ⟨.slice a5 acc.length c5, by rw [R.out]; rfl, by rw [R.out]; exact HOWN.out, BEL.out⟩
          · obtain ⟨d1, d2⟩ := ne_of T hT
            have KC := Lib.hid (cut_run T (by omega) wr hE)
            have HOWN := Lib.hid hown
            have HE2 := Lib.hid hE
            have BEL := Lib.hid bel
            have HP := Lib.hid (HPT.out.trans hp)
            have HP0 := Lib.hid hp
            have HT := Lib.hid hT
            clear hown hE bel hp hT
            go_wp2_with fail
            refine KC.out.mono ?_
            rintro e w2 ⟨⟨A, B, hcase⟩, b2⟩
            have hsz2 := b2.size
            have HOWN2 := Lib.hid (HOWN.out.kept (grown_of_below b2) (Classical.em _))
            have HE3 := Lib.hid (HE2.out.below b2 hlowr)
            have BEL2 := Lib.hid (BEL.out.trans (b2.mono hszw))
            clear b2 HOWN HE2 BEL KC
            rcases hcase with ⟨hc, rfl⟩ | ⟨hc, rfl⟩
            · have hlen := cut_less hc
              rw [bl_len] at hlen
              have KL := item_any (mkB A) (by rw [mkB_size]; omega) w2 HE3.out
              rw [bl_mkB] at KL
              have KL := Lib.hid KL
              have HC := Lib.hid hc
              clear hc
              go_wp2_with fail
              refine KL.out.mono ?_
              rintro e w3 ⟨t, ok, rfl, hline, b3⟩
              have hsz3 := b3.size
              have HOWN3 := Lib.hid (HOWN2.out.kept (grown_of_below b3) (Classical.em _))
              have BEL3 := Lib.hid (BEL2.out.trans (b3.mono (by omega)))
              clear b3 HOWN2 HE3 BEL2 KL
              obtain ⟨W5, hW5⟩ : ∃ W, (w3.alloc (.cells (itA zeroI) 25)).setRow w3.heap.size (itA t) = W := ⟨_, rfl⟩
              have A5 : ItAt W5 w3.heap.size t := by rw [← hW5]; exact ItAt.row (ItAt.new w3 zeroI) _
              have O5 : W5.ownsRow w.heap.size 25 22 v6 acc.length (itsC acc) := by
                rw [← hW5]
                exact own_grown2 HOWN3.out (grown_setRow (grown_alloc (grown_refl _ none) _) (.inr (Nat.le_refl _)) _)
              have B5 : Below w.heap.size w W5 := by rw [← hW5]; exact below_row (BEL3.out.alloc (by omega) _) (by omega) _
              have A5 := Lib.hid A5
              have O5 := Lib.hid O5
              have B5 := Lib.hid B5
              go_upto_region 10 with (first
                | ((with_reducible refine go_allocI ?_))
                | ((with_reducible refine go_storeI (.tmp 10) (.tmp 39) w3.heap.size t zeroI (by with_unfolding_all rfl) (by with_unfolding_all rfl) (ItAt.new _ _) ?_)))
              try rw [hW5]
              clear hW5 HOWN3 BEL3
              cases ok
              · have R := Lib.hid (HP.out.trans (parseA_bad HC.out (by simpa using hline)))
                obtain ⟨a5, c5, rfl, _, _⟩ := its_own O5.out
                clear hline HP HP0 HC
                go_wp2_with fail
                go_ret3
                exact ParsePost.nil _ 2 R.out B5.out rfl
              · have R := Lib.hid (HP0.out.trans (parseA_item HC.out (by simpa using hline)))
                have HN := Lib.hid (show acc.length ≤ 1000000 by omega)
                have sz5 := B5.out.size
                clear hline HP HP0 HC
                go_wp2_with (first
                  | ((with_reducible refine go_loadI (.tmp 10) w3.heap.size t (by with_unfolding_all rfl) A5.out ?_))
                  | ((with_reducible refine go_it1 (.tmp 50) t (by with_unfolding_all rfl) ?_))
                  | ((with_reducible refine go_itapp (.tmp 49) (.tmp 51) acc t _ (by with_unfolding_all rfl) (O5.out.alloc _) (by with_unfolding_all rfl) (by with_unfolding_all exact ItAt.new W5 t) HN.out (by simp; omega) ?_); intro v' w6 hown6 hgrow; have bel6 : Below w.heap.size w w6 := (B5.out.alloc (by omega) _).trans (below_of_grown hgrow (by simp; omega) (fun k e => ((O5.out).lt k e).1)); have FF := Lib.hid (And.intro hown6 bel6); clear hown6 bel6 hgrow))
                exact ⟨⟨mkB B, acc ++ [t], _, rfl, rfl, by rw [List.length_append, mkB_size]; simp; omega, by rw [bl_mkB]; exact R.out, FF.out.1, FF.out.2⟩, by show (mkB B).size < T.size; rw [mkB_size]; omega⟩
            · have R := Lib.hid (HP.out.trans (parseA_none HT.out hc))
              have KL := Lib.hid (item_any T (by omega) w2 HE3.out)
              obtain ⟨a5, c5, rfl, _, _⟩ := its_own HOWN2.out
              clear hc HP HT HP0
              go_wp2_with fail
              refine KL.out.mono ?_
              rintro e w3 ⟨t, ok, rfl, hline, b3⟩
              have hsz3 := b3.size
              have BEL3 := Lib.hid (BEL2.out.trans (b3.mono (by omega)))
              clear b3 HE3 BEL2 KL hline HOWN2
              have B5 := Lib.hid (below_row (BEL3.out.alloc (by omega) (.cells (itA zeroI) 25)) (show w.heap.size ≤ w3.heap.size by omega) (itA t))
              cases ok
              all_goals
                go_wp2_with (first
                  | ((with_reducible refine go_allocI ?_))
                  | ((with_reducible refine go_storeI (.tmp 10) (.tmp 39) w3.heap.size t zeroI (by with_unfolding_all rfl) (by with_unfolding_all rfl) (ItAt.new _ _) ?_)))
                go_ret3
                exact ParsePost.nil _ 2 R.out B5.out rfl
end Go.Proofs.YtefdjdipbnnoaaaGreatDoor

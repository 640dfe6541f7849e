/-
  cncref17.Parse: the list of a text, or why there is none. Any text of at most 1,000,000 bytes.
-/
import Derived.Test.YtefdjdipbnnoaaaGreatDoorRItemP17
import Derived.Test.YtefdjdipbnnoaaaGreatDoorParseP17
namespace Go.Proofs.YtefdjdipbnnoaaaGreatDoor
open Go Go.RowKit
set_option linter.unusedVariables false
set_option linter.unusedSimpArgs false

set_option maxRecDepth 100000 in
set_option maxHeartbeats 4000000 in
theorem rparse_any (s : ByteArray) (hs : s.size ≤ 1000000) (w : World) : Calls Tryz.prog 20 #[.string s] w (ParsePost (parseT (bl s)) w) := by
  have KL := Lib.hid (lines_any s hs w)
  obtain ⟨hll1, hll2, hll3⟩ := lnsF_len _ (bl s) (Nat.le_refl _)
  have hp0 := parse_lines _ [] (bl s) (Nat.le_refl _)
  rw [bl_len] at hll1
  go_enter Tryz.func20, Tryz.ntmps20
  go_wp2_with fail
  refine KL.out.mono ?_
  rintro e w1 ⟨vl, rfl, hownl, b1⟩
  obtain ⟨⟨ls, full⟩, hlf⟩ : ∃ x, lnsF (bl s) = x := ⟨_, rfl⟩
  have hpt : parseT (bl s) = if 20000 < ls.length then ([], 0, 10) else parseLs full [] ls := by
    unfold parseT
    rw [hp0, hlf]
  rw [hlf] at hownl hll1 hll3
  simp only at hownl hll1 hll3
  simp only [hlf]
  obtain ⟨al, cl, rfl, hcl⟩ := words_cell hownl
  obtain ⟨N, hN⟩ : ∃ N, ls.length = N := ⟨_, rfl⟩
  rw [hN] at hpt
  have HN := Lib.hid hN
  have hN6 : N ≤ 1000000 := by omega
  have HCL := Lib.hid hcl
  have BEL1 := Lib.hid b1
  have sz1 := b1.size
  have HL3 := Lib.hid (fun a ha => (bl_len s ▸ hll3 a ha : a.length ≤ s.size))
  have HG := Lib.hid (fun k (hk : k < N) => (⟨ls[k]'(by omega), List.getElem?_eq_getElem _⟩ : ∃ x, ls[k]? = some x))
  rw [hN]
  clear hownl hcl b1 KL hp0 hll1 hll2 hll3 hlf hN
  by_cases hbig : 20000 < N
  · rw [if_pos hbig] at hpt
    have RB := Lib.hid hpt
    have e1 : decide (20000 < (N : Int)) = true := decide_eq_true (by omega)
    have e2 : decide (20000 < N) = true := decide_eq_true hbig
    clear hpt
    go_wp2_with fail
    go_ret3
    exact ParsePost.nil 0 10 RB.out BEL1.out rfl
  rw [if_neg hbig] at hpt
  have HP0 := Lib.hid hpt
  have e1 : decide (20000 < (N : Int)) = false := decide_eq_false (by omega)
  have e2 : decide (20000 < N) = false := decide_eq_false hbig
  clear hpt hbig
  go_wp2_with fail
  go_loopw [7, 8] (fun s7 s8 wr => ∃ (k : Nat) (acc : List It) (v7 : Value), v7 = s7 ∧ k ≤ N ∧ s8 = .int .i64 k ∧ acc.length = k ∧ parseT (bl s) = parseLs full acc (ls.drop k) ∧ wr.ownsRow w1.heap.size 25 22 v7 acc.length (itsC acc) ∧ Below w1.heap.size w1 wr)
    (fun _ s8 _ => N - (intOf s8).toNat)
  case atStart => exact ⟨0, [], _, rfl, by omega, rfl, rfl, HP0.out, World.ownsRow_nil _ _ _ _, Below.refl _ _⟩
  case round =>
    obtain ⟨k, acc, v7, rfl, hk, rfl, hak, hp, hown, bel⟩ := hrel
    have hszr := bel.size
    clear e1 e2
    by_cases hlt : k < N
    · obtain ⟨a, ha⟩ := HG.out k hlt
      have e1 : decide (k < N) = true := decide_eq_true hlt
      have e1' : decide ((k : Int) < (N : Int)) = true := decide_eq_true (by omega)
      have k0 : (0 : Int) ≤ (k : Int) := by omega
      have k1 : (k : Int) < (N : Int) := by omega
      obtain ⟨bL, rfl, hbL, hcell⟩ := HCL.out k a ha
      have q1 : wr.cell? ⟨bL, k, none⟩ = some (.string (mkB a)) := (bel.cell (p := ⟨bL, k, none⟩) hbL).trans hcell
      have hal := HL3.out a (List.mem_of_getElem? ha)
      have hdrop : ls.drop k = a :: ls.drop (k + 1) := by
        obtain ⟨h1, h2⟩ := List.getElem?_eq_some_iff.1 ha
        rw [List.drop_eq_getElem_cons h1, h2]
      rw [hdrop] at hp
      have KF := fields_split (mkB a) (by rw [mkB_size]; omega) wr
      rw [bl_mkB] at KF
      obtain ⟨ws, hws⟩ : ∃ x, splitL 32 a = x := ⟨_, rfl⟩
      rw [hws] at KF
      have KF := Lib.hid KF
      have HP := Lib.hid hp
      have HOWN := Lib.hid hown
      have BELr := Lib.hid bel
      have HWS := Lib.hid hws
      have HAK := Lib.hid hak
      have HAL := Lib.hid (show a.length ≤ 1000000 by omega)
      clear hp hown bel hws hcell hdrop ha hak hal
      go_wp2_with fail
      refine KF.out.mono ?_
      rintro e w3 ⟨v9, rfl, hown9, b3⟩
      obtain ⟨a9, c9, rfl, hw9⟩ := words_cell hown9
      have HOWN3 := Lib.hid (HOWN.out.kept (grown_of_below b3) (Classical.em _))
      have BEL3 := Lib.hid (BELr.out.trans (b3.mono hszr))
      have sz3 := BEL3.out.size
      have KI := Lib.hid (ritem_any a a9 c9 ws w3 HWS.out HAL.out hw9)
      clear hown9 b3 hw9 HOWN BELr KF
      go_wp2_with fail
      refine KI.out.mono ?_
      rintro e w5 ⟨t, ok, rfl, hline, b5⟩
      have O5 := Lib.hid (own_grown2 HOWN3.out (grown_of_below b5))
      have B5 := Lib.hid (BEL3.out.trans (b5.mono sz3))
      have sz5 := B5.out.size
      clear b5 KI HOWN3 BEL3 q1
      obtain ⟨W6, hW6⟩ : ∃ W, (w5.alloc (.cells (itA zeroI) 25)).setRow w5.heap.size (itA t) = W := ⟨_, rfl⟩
      have A6 : ItAt W6 w5.heap.size t := by rw [← hW6]; exact ItAt.row (ItAt.new w5 zeroI) _
      have O6 : W6.ownsRow w1.heap.size 25 22 v7 acc.length (itsC acc) := by
        rw [← hW6]
        exact own_grown2 O5.out (grown_setRow (grown_alloc (grown_refl _ none) _) (.inr (Nat.le_refl _)) _)
      have B6 : Below w1.heap.size w1 W6 := by rw [← hW6]; exact below_row (B5.out.alloc (by omega) _) (by omega) _
      have A6 := Lib.hid A6
      have O6 := Lib.hid O6
      have B6 := Lib.hid B6
      have sz6 := B6.out.size
      have HN6 := Lib.hid (show acc.length ≤ 1000000 by have := HAK.out; omega)
      go_upto_region 9 with (first
        | ((with_reducible refine go_allocI ?_))
        | ((with_reducible refine go_storeI (.tmp 9) (.tmp 32) w5.heap.size t zeroI (by with_unfolding_all rfl) (by with_unfolding_all rfl) (ItAt.new _ _) ?_)))
      try rw [hW6]
      clear hW6 O5 B5
      cases ok
      · have R := Lib.hid (HP.out.trans (parseLs_bad (by simpa using hline)))
        rw [HAK.out] at R
        have BEL := Lib.hid (BEL1.out.trans (B6.out.mono sz1))
        clear hline HP
        go_wp2_with fail
        go_ret3
        exact ParsePost.nil _ 2 R.out BEL.out rfl
      by_cases hlast : k + 1 = N ∧ full = false
      · obtain ⟨hk1, rfl⟩ := hlast
        have R := Lib.hid (show parseT (bl s) = ([], (acc.length : Int), 2) from HP.out.trans (by rw [List.drop_eq_nil_of_le (by have := HN.out; omega)]; exact parseLs_last))
        rw [HAK.out] at R
        have z1 : ((k : Int) == (N : Int) - 1) = true := beq_iff_eq.2 (by omega)
        have BEL := Lib.hid (BEL1.out.trans (B6.out.mono sz1))
        clear hline HP
        go_wp2_with fail
        go_ret3
        exact ParsePost.nil _ 2 R.out BEL.out rfl
      · have hnl : ¬ (ls.drop (k + 1) = [] ∧ full = false) := by
          rintro ⟨h1, h2⟩
          refine hlast ⟨?_, h2⟩
          have := congrArg List.length h1
          rw [List.length_drop, HN.out] at this
          simp at this
          omega
        have R := Lib.hid (HP.out.trans (parseLs_item (by simpa using hline) hnl))
        have hz : ((k : Int) == (N : Int) - 1) = false ∨ (((k : Int) == (N : Int) - 1) = true ∧ full = true) := by
          by_cases hk1 : k + 1 = N
          · right
            refine ⟨beq_iff_eq.2 (by omega), ?_⟩
            cases full
            · exact absurd ⟨hk1, rfl⟩ hlast
            · rfl
          · left
            exact beq_eq_false_iff_ne.2 (by omega)
        clear hline HP hnl hlast
        rcases hz with z1 | ⟨z1, rfl⟩
        · skip
          go_wp2_with (first
            | ((with_reducible refine go_loadI (.tmp 9) w5.heap.size t (by with_unfolding_all rfl) A6.out ?_))
            | ((with_reducible refine go_it1 (.tmp 49) t (by with_unfolding_all rfl) ?_))
            | ((with_reducible refine go_itapp (.tmp 48) (.tmp 50) acc t _ (by with_unfolding_all rfl) (O6.out.alloc _) (by with_unfolding_all rfl) (by with_unfolding_all exact ItAt.new W6 t) HN6.out (by simp; omega) ?_); intro v' w7 hown7 hgrow; have bel7 : Below w1.heap.size w1 w7 := (B6.out.alloc (by omega) _).trans (below_of_grown hgrow (by simp; omega) (fun k e => ((O6.out).lt k e).1)); have FF := Lib.hid (And.intro hown7 bel7); clear hown7 bel7 hgrow))
          go_roundw
          case rel => exact ⟨k + 1, acc ++ [t], _, rfl, by omega, by go_num, by rw [List.length_append, HAK.out]; rfl, R.out, FF.out.1, FF.out.2⟩
          case measure => simp [intOf]; omega
        · skip
          go_wp2_with (first
            | ((with_reducible refine go_loadI (.tmp 9) w5.heap.size t (by with_unfolding_all rfl) A6.out ?_))
            | ((with_reducible refine go_it1 (.tmp 49) t (by with_unfolding_all rfl) ?_))
            | ((with_reducible refine go_itapp (.tmp 48) (.tmp 50) acc t _ (by with_unfolding_all rfl) (O6.out.alloc _) (by with_unfolding_all rfl) (by with_unfolding_all exact ItAt.new W6 t) HN6.out (by simp; omega) ?_); intro v' w7 hown7 hgrow; have bel7 : Below w1.heap.size w1 w7 := (B6.out.alloc (by omega) _).trans (below_of_grown hgrow (by simp; omega) (fun k e => ((O6.out).lt k e).1)); have FF := Lib.hid (And.intro hown7 bel7); clear hown7 bel7 hgrow))
          go_roundw
          case rel => exact ⟨k + 1, acc ++ [t], _, rfl, by omega, by go_num, by rw [List.length_append, HAK.out]; rfl, R.out, FF.out.1, FF.out.2⟩
          case measure => simp [intOf]; omega
    · obtain rfl : k = N := by omega
      have e1 : decide (k < k) = false := by simp
      have e1' : decide ((k : Int) < (k : Int)) = false := by simp
      rw [List.drop_eq_nil_of_le (by have := HN.out; omega), parseLs_nil] at hp
      obtain ⟨a5, c5, rfl, _, _⟩ := its_own hown
      have HOWN := Lib.hid (own_base hown sz1)
      have BEL := Lib.hid (BEL1.out.trans (bel.mono sz1))
      have R := Lib.hid hp
      have HAK := Lib.hid hak
      clear hown hp bel
      rw [hak]
      clear hak
      go_wp2_with fail
      go_ret3
      exact ⟨.slice a5 acc.length c5, by rw [R.out, HAK.out]; rfl, by rw [R.out]; exact HOWN.out, BEL.out⟩
end Go.Proofs.YtefdjdipbnnoaaaGreatDoor

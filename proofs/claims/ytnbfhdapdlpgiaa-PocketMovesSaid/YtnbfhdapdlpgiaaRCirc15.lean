/-
  cncref15.Circle: any arguments.
-/
import Derived.Test.YtnbfhdapdlpgiaaCircB15
import Derived.Test.YtnbfhdapdlpgiaaHeldBy
namespace Go.Proofs.Ytnbfhdapdlpgiaa
open Go Go.RowKit
set_option linter.unusedVariables false

set_option maxRecDepth 100000 in
set_option maxHeartbeats 4000000 in
theorem rcircle_main (cu cw radius step : Int) (w : World) (h1 : 8 ≤ radius) (h1' : radius ≤ 1048576) (h2 : 8 ≤ step) (u1 : -1048576 ≤ cu) (u2 : cu ≤ 1048576) (v1 : -1048576 ≤ cw) (v2 : cw ≤ 1048576) (hN : rgN radius step ≤ 1000) :
    Calls Try.prog 16 #[.agg #[.int .i64 cu, .int .i64 cw], .int .i64 radius, .int .i64 step] w (Out w (circleL cu cw radius step) 0) := by
  obtain ⟨i0, hi, hz0, hz1, hz2⟩ := info_parts infoItem
  have hmany := fun W => many_any radius step W (by omega) (by omega) (by omega)
  rw [show decide (1000 < rgN radius step) = false from decide_eq_false (by omega)] at hmany
  have HM := Lib.hid hmany
  have hpos := rgN_pos (show 1 ≤ radius by omega) (show 1 ≤ step by omega)
  clear hmany
  have hb0 := Blk.new w 29 #[.int .i64 cu, .int .i64 cw]
  have bel0 := (Below.refl w.heap.size w).alloc (Nat.le_refl _) (.cells #[.int .i64 cu, .int .i64 cw] 29)
  go_enter Try.func16, Try.ntmps16
  go_wp2_with (first
    | (go_at_call 28; (with_reducible refine (in_yes _ _ (by assumption) (by assumption)).mono ?_); rintro e w' ⟨rfl, rfl⟩)
    | (go_at_call 25; refine (HM.out _).mono ?_; rintro e w' ⟨rfl, rfl⟩))
  refine (rRings_any radius step _ (by omega)).mono ?_
  rintro e W1 ⟨vl, rfl, ownl, bell⟩
  rw [show RingsRow radius step = ringsL radius step from if_pos ⟨by omega, by omega, hN⟩, ringsL_len] at ownl
  obtain ⟨la, lc, rfl⟩ := own_form ownl
  have hints : IntsAt W1 la (rgN radius step) (fun i => (ringsL radius step).getD i 0) := IntsAt.own ownl
  have hcb := hb0.below bell hb0.lt
  have bel1 := bel0.trans (bell.mono (by simp))
  have hcl := hcb.lt
  have HI := Lib.hid hints
  clear ownl bell hb0 bel0 hints
  go_wp2_with fail
  go_loopw [8, 10] (fun v8 v10 wr => ∃ j : Nat, j ≤ rgN radius step ∧ v10 = .int .i64 j ∧ wr.ownsRow W1.heap.size 40 22 v8 (circL cu cw ((ringsL radius step).take j)).length (circL cu cw ((ringsL radius step).take j)).flatten ∧ Below W1.heap.size W1 wr)
    (fun _ v10 _ => rgN radius step - (intOf v10).toNat)
  case atStart => exact ⟨0, by omega, rfl, World.ownsRow_nil _ _ _ _, Below.refl _ _⟩
  case round =>
    obtain ⟨j, hj, rfl, own, bel⟩ := hrel
    have hlen := circL_len cu cw ((ringsL radius step).take j)
    rw [List.length_take, ringsL_len, Nat.min_eq_left hj] at hlen
    have c0 := (hcb.below bel hcl).cell' 0 rfl
    have c1 := (hcb.below bel hcl).cell' 1 rfl
    have hszr := bel.size
    by_cases hlt : j < rgN radius step
    · obtain ⟨b, o, rfl, hbl, hc⟩ := HI.out j hlt
      have hr := ringsL_at hlt
      have hrb := ring_bd (show 1 ≤ radius by omega) (show 1 ≤ step by omega) hlt
      have hts := ringsL_take_succ radius step j hlt
      dsimp only at hc
      rw [show (ringsL radius step).getD j 0 = ring radius step j by simp [List.getD, hr]] at hc
      generalize ring radius step j = r at hc hrb hts
      obtain ⟨hr1, hr2⟩ := hrb
      have cr := (bel.cell (p := ⟨b, o + j, none⟩) hbl).trans hc
      have hw1 : IntKind.i64.wrap (cu + r) = cu + r := by rw [IntKind.wrap_i64]; omega
      have i1 : (0 : Int) ≤ (j : Int) := by omega
      have i2 : (j : Int) < (rgN radius step : Int) := by omega
      have d1 : decide (j < rgN radius step) = true := by simp; omega
      have HTS := Lib.hid hts
      have HLEN := Lib.hid hlen
      have hl2 : (circL cu cw ((ringsL radius step).take j)).length ≤ 2000 := by omega
      clear hr hts hc hlen
      obtain ⟨len, elen⟩ : ∃ len, (circL cu cw ((ringsL radius step).take j)).length = len := ⟨_, rfl⟩
      have ELEN := Lib.hid elen
      rw [elen] at own hl2
      clear elen
      go_upto_region 10 with fail
      go_cut [11] (fun s11 wx => ∃ g : Nat, s11 = .pointer (some ⟨g, 0, none⟩) ∧ wr.grownBy wx none ∧ Blk wx g 40 (lineL (cu + r) cw).toArray)
      case first =>
        have sc0 : ∀ W', wr.grownBy W' none → W'.cell? ⟨w.heap.size, 0, none⟩ = some (.int .i64 cu) := fun W' h => ((below_of_grown0 h).cell (p := ⟨w.heap.size, 0, none⟩) (by show w.heap.size < _; omega)).trans c0
        have sc1 : ∀ W', wr.grownBy W' none → W'.cell? ⟨w.heap.size, 1, none⟩ = some (.int .i64 cw) := fun W' h => ((below_of_grown0 h).cell (p := ⟨w.heap.size, 1, none⟩) (by show w.heap.size < _; omega)).trans c1
        have scr : ∀ W', wr.grownBy W' none → W'.cell? ⟨b, o + j, none⟩ = some (.int .i64 r) := fun W' h => ((below_of_grown0 h).cell (p := ⟨b, o + j, none⟩) (by show b < _; omega)).trans cr
        refine wp_region_held_drew (S := fun w' => wr.grownBy w' none) (by kernel_rfl) (grown_drew (grown_refl _ _)) fun hS0 => ?_
        refine take_first 0 (v := .pointer (some ⟨w.heap.size, 0, none⟩)) rfl (by kernel_rfl) (by kernel_rfl) (by kernel_rfl) (fun _ _ _ h => h) rfl (fun W' hW' => by go_simp) hS0 ?_
        refine take_first 1 (v := .int .i64 cu) rfl (by kernel_rfl) (by kernel_rfl) (by kernel_rfl) (fun _ _ _ h => h) rfl (fun W' hW' => by have e0 := sc0 W' hW'; go_simp) hS0 ?_
        refine take_first 2 (v := .slice (some ⟨b, o, none⟩) (rgN radius step) lc) rfl (by kernel_rfl) (by kernel_rfl) (by kernel_rfl) (fun _ _ _ h => h) rfl (fun W' hW' => by go_simp) hS0 ?_
        refine take_first 3 (v := .int .i64 j) rfl (by kernel_rfl) (by kernel_rfl) (by kernel_rfl) (fun _ _ _ h => h) rfl (fun W' hW' => by go_simp) hS0 ?_
        refine take_first 4 (v := .pointer (some ⟨b, o + j, none⟩)) rfl (by kernel_rfl) (by kernel_rfl) (by kernel_rfl) (fun _ _ _ h => h) rfl (fun W' hW' => by go_simp) hS0 ?_
        refine take_first 5 (v := .int .i64 r) rfl (by kernel_rfl) (by kernel_rfl) (by kernel_rfl) (fun _ _ _ h => h) rfl (fun W' hW' => by have e0 := scr W' hW'; go_simp) hS0 ?_
        refine take_first 6 (v := .int .i64 (cu + r)) rfl (by kernel_rfl) (by kernel_rfl) (by kernel_rfl) (fun _ _ _ h => h) rfl (fun W' hW' => by go_simp) hS0 ?_
        refine take_first 7 (v := .pointer (some ⟨w.heap.size, 1, none⟩)) rfl (by kernel_rfl) (by kernel_rfl) (by kernel_rfl) (fun _ _ _ h => h) rfl (fun W' hW' => by go_simp) hS0 ?_
        refine take_first 8 (v := .int .i64 cw) rfl (by kernel_rfl) (by kernel_rfl) (by kernel_rfl) (fun _ _ _ h => h) rfl (fun W' hW' => by have e0 := sc1 W' hW'; go_simp) hS0 ?_
        refine two_next 9 10 (by kernel_rfl) rfl rfl rfl rfl (fun K1 hK1 => ?_) (fun K1 hK1 => ?_)
        · go_simp
          refine (rline_any (cu + r) cw _).mono ?_
          rintro e wl ⟨rfl, bel9⟩
          have g9 : wr.grownBy wl none := grown_trans hS0 (grown_of_below bel9)
          refine hK1 _ _ g9 ?_
          refine one_next 10 (by kernel_rfl) rfl rfl fun K2 hK2 => ?_
          go_simp
          refine hK2 _ _ (grown_alloc g9 _) ?_
          refine one_next 11 (by kernel_rfl) rfl rfl fun K3 hK3 => ?_
          refine wp_store_row 40 (.tmp 11) (.tmp 55) rfl wl.heap.size (lineL (cu + r) cw).toArray rfl rfl 40 #[.int .i64 0, .int .i64 0, .int .i64 0, .int .i64 0, .int .i64 0, .int .i64 0, .int .i64 0, .int .i64 0, .int .i64 0, .int .i64 0, .int .i64 0, .int .i64 0, .int .i64 0, .bool false, .int .i64 0, .bool false, .int .i64 0, .int .i64 0, .int .i64 0, .int .i64 0, .int .i64 0, .bool false] (Blk.new wl _ _) (by kernel_rfl) rfl (line_one _ _) ?_
          refine hK3 _ _ (grown_setRow (grown_alloc g9 _) (.inr g9.size) _) ?_
          refine wpAnyH_done (by kernel_rfl) ?_ _
          go_wp2_with fail
          go_meet
          exact ⟨wl.heap.size, rfl, grown_setRow (grown_alloc g9 _) (.inr g9.size) _, (Blk.new wl _ _).setRow _⟩
        · go_simp
          refine hK1 _ _ (grown_alloc hS0 _) ?_
          refine one_next 9 (by kernel_rfl) rfl rfl fun K2 hK2 => ?_
          go_simp
          refine (rline_any (cu + r) cw _).mono ?_
          rintro e wl ⟨rfl, bel9⟩
          have g9 : wr.grownBy wl none := grown_trans (grown_alloc hS0 _) (grown_of_below bel9)
          have bz : Blk wl wr.heap.size 40 #[.int .i64 0, .int .i64 0, .int .i64 0, .int .i64 0, .int .i64 0, .int .i64 0, .int .i64 0, .int .i64 0, .int .i64 0, .int .i64 0, .int .i64 0, .int .i64 0, .int .i64 0, .bool false, .int .i64 0, .bool false, .int .i64 0, .int .i64 0, .int .i64 0, .int .i64 0, .int .i64 0, .bool false] := (Blk.new wr.drew 40 #[.int .i64 0, .int .i64 0, .int .i64 0, .int .i64 0, .int .i64 0, .int .i64 0, .int .i64 0, .int .i64 0, .int .i64 0, .int .i64 0, .int .i64 0, .int .i64 0, .int .i64 0, .bool false, .int .i64 0, .bool false, .int .i64 0, .int .i64 0, .int .i64 0, .int .i64 0, .int .i64 0, .bool false]).below bel9 (by simp)
          refine hK2 _ _ g9 ?_
          refine one_next 11 (by kernel_rfl) rfl rfl fun K3 hK3 => ?_
          refine wp_store_row 40 (.tmp 11) (.tmp 55) rfl wr.heap.size (lineL (cu + r) cw).toArray rfl rfl 40 #[.int .i64 0, .int .i64 0, .int .i64 0, .int .i64 0, .int .i64 0, .int .i64 0, .int .i64 0, .int .i64 0, .int .i64 0, .int .i64 0, .int .i64 0, .int .i64 0, .int .i64 0, .bool false, .int .i64 0, .bool false, .int .i64 0, .int .i64 0, .int .i64 0, .int .i64 0, .int .i64 0, .bool false] bz (by kernel_rfl) rfl (line_one _ _) ?_
          refine hK3 _ _ (grown_setRow g9 (.inr (Nat.le_refl _)) _) ?_
          refine wpAnyH_done (by kernel_rfl) ?_ _
          go_wp2_with fail
          go_meet
          exact ⟨wr.heap.size, rfl, grown_setRow g9 (.inr (Nat.le_refl _)) _, bz.setRow _⟩
      case rest =>
        obtain ⟨g, rfl, gx, bg⟩ := hcut
        have k0 := ((below_of_grown0 gx).cell (p := ⟨w.heap.size, 0, none⟩) (by show w.heap.size < _; omega)).trans c0
        have k1 := ((below_of_grown0 gx).cell (p := ⟨w.heap.size, 1, none⟩) (by show w.heap.size < _; omega)).trans c1
        have t5 := bg.cell' (v := .int .i64 (cu + r)) 5 rfl
        have t6 := bg.cell' (v := .int .i64 cw) 6 rfl
        have t7 := bg.cell' (v := .int .i64 0) 7 rfl
        have ownx := own.kept gx (Classical.em _)
        have belx := bel.trans ((below_of_grown0 gx).mono hszr)
        have hszx := belx.size
        clear own bel c0 c1 cr gx
        go_wp2_with (first
          | ((with_reducible refine go_load_row 40 (.tmp 11) g 40 (lineL (cu + r) cw).toArray _ (by with_unfolding_all rfl) (by with_unfolding_all exact bg) Try.underlying40 (by with_unfolding_all rfl) (by with_unfolding_all kernel_rfl) ?_))
          | ((with_reducible refine go_built 38 _ #[.int .i64 cu, .int .i64 cw, .int .i64 0] (by with_unfolding_all kernel_rfl) ?_))
          | ((with_reducible refine go_built 40 _ (turnL (cu + r) cw cu cw).toArray (by with_unfolding_all kernel_rfl) ?_))
          | ((with_reducible refine go_buildSlice 30 40 2 _ (lineL (cu + r) cw ++ turnL (cu + r) cw cu cw).toArray i0 _ Try.underlying30 hi hz0 (by rw [hz1]; with_unfolding_all decide) (by rw [hz1]; with_unfolding_all decide) (by rw [hz1]; with_unfolding_all kernel_rfl) ?_))
          | (at_builtin; refine wpList_append_own _ rfl (.tmp 56) (.tmp 66) 30 rfl W1.heap.size 40 i0 (.agg #[.int .i64 0, .int .i64 0, .int .i64 0, .int .i64 0, .int .i64 0, .int .i64 0, .int .i64 0, .int .i64 0, .int .i64 0, .int .i64 0, .int .i64 0, .int .i64 0, .int .i64 0, .bool false, .int .i64 0, .bool false, .int .i64 0, .int .i64 0, .int .i64 0, .int .i64 0, .int .i64 0, .bool false]) 22 176 Try.underlying30 hi hz0 hz1 hz2 rfl (by decide) _ len _ rfl (ownx.alloc _) ⟨_, 0, none⟩ 2 2 (lineL (cu + r) cw ++ turnL (cu + r) cw cu cw) rfl rfl (news_made _ _ _) (pair_one _ _ _ _) (by unfold maxLen; omega) (by omega) (by simp; omega) ?_; intro v' w2 own2 hgrow _))
        have bel2 : Below W1.heap.size W1 w2 := (belx.alloc hszx (.cells (lineL (cu + r) cw ++ turnL (cu + r) cw cu cw).toArray 40)).grown hgrow (by simp; omega) (fun k e => (ownx.lt k e).1)
        have E1 : circL cu cw ((ringsL radius step).take (j + 1)) = circL cu cw ((ringsL radius step).take j) ++ [lineL (cu + r) cw, turnL (cu + r) cw cu cw] := by rw [HTS.out]; exact circL_snoc _ _ _ _
        have own3 : w2.ownsRow W1.heap.size 40 22 v' (circL cu cw ((ringsL radius step).take (j + 1))).length (circL cu cw ((ringsL radius step).take (j + 1))).flatten := by
          rw [E1, List.length_append, ELEN.out, List.flatten_append]
          simpa using own2
        clear own2 hgrow belx ownx E1 hszx
        go_wp2_with fail
        go_roundw
        case rel => exact ⟨j + 1, hlt, by go_num, own3, bel2⟩
        case measure => simp [intOf]; omega
    · obtain rfl : j = rgN radius step := by omega
      have hall : (ringsL radius step).take (rgN radius step) = ringsL radius step := List.take_of_length_le (by rw [ringsL_len]; omega)
      rw [hall] at own hlen
      obtain ⟨len, elen⟩ : ∃ len, (circL cu cw (ringsL radius step)).length = len := ⟨_, rfl⟩
      have ELEN := Lib.hid elen
      have hl2 : len ≤ 2000 := by omega
      rw [elen] at own
      have q4 : w.heap.size < wr.heap.size := by omega
      clear elen hlen hall
      go_wp2_with fail
      refine (rline_any cu cw _).mono ?_
      rintro e wl ⟨rfl, belw⟩
      have gl : wr.grownBy wl none := grown_of_below belw
      have q3 := gl.size
      have hrl := own.kept gl (Classical.em _)
      go_wp2_with (first
        | ((with_reducible refine go_buildSlice 30 40 1 _ (lineL cu cw).toArray i0 _ Try.underlying30 hi hz0 (by rw [hz1]; with_unfolding_all decide) (by rw [hz1]; with_unfolding_all decide) (by rw [hz1]; with_unfolding_all kernel_rfl) ?_))
        | (at_builtin; refine wpList_append_own _ rfl (.tmp 68) (.tmp 74) 30 rfl W1.heap.size 40 i0 (.agg #[.int .i64 0, .int .i64 0, .int .i64 0, .int .i64 0, .int .i64 0, .int .i64 0, .int .i64 0, .int .i64 0, .int .i64 0, .int .i64 0, .int .i64 0, .int .i64 0, .int .i64 0, .bool false, .int .i64 0, .bool false, .int .i64 0, .int .i64 0, .int .i64 0, .int .i64 0, .int .i64 0, .bool false]) 22 176 Try.underlying30 hi hz0 hz1 hz2 rfl (by decide) _ len _ rfl (hrl.alloc _) ⟨wl.heap.size, 0, none⟩ 1 1 (lineL cu cw) rfl rfl (news_made _ _ _) (one_one _ _) (by unfold maxLen; omega) (by omega) (by simp; omega) ?_; intro v' w1 hown' hgrow _))
      obtain ⟨a', c', rfl⟩ := own_form hown'
      have B1 : Below w.heap.size w wr := bel1.trans (bel.mono (by omega))
      have B2 : Below w.heap.size w wl := B1.trans ((below_of_grown0 gl).mono (by omega))
      have B3 : Below w.heap.size w w1 := (B2.alloc (by omega) (.cells (lineL cu cw).toArray 40)).grown hgrow (by have := B2.size; simp; omega) (fun k e => by have := (hrl.lt k e).1; omega)
      have e1 : (circleL cu cw radius step).length = len + 1 := by unfold circleL; rw [List.length_append, ELEN.out]; rfl
      have e2 : (circleL cu cw radius step).flatten = (circL cu cw (ringsL radius step)).flatten ++ lineL cu cw := by unfold circleL; rw [List.flatten_append]; simp
      go_ret2
      refine ⟨a', c', by rw [e1]; rfl, ?_, B3⟩
      rw [e1, e2]
      exact own_base hown' (by omega)

set_option maxHeartbeats 1000000 in
theorem rcircle_any (cu cw radius step : Int) (w : World) :
    Calls Try.prog 16 #[.agg #[.int .i64 cu, .int .i64 cw], .int .i64 radius, .int .i64 step] w (Out w (circleR cu cw radius step).1 (circleR cu cw radius step).2) := by
  have bel := (Below.refl w.heap.size w).alloc (Nat.le_refl _) (.cells #[.int .i64 cu, .int .i64 cw] 29)
  by_cases hg : goodC cu cw radius step
  · by_cases hN : rgN radius step ≤ 1000
    · rw [circleR_ok hg hN]
      obtain ⟨g1, g2, g3, ⟨g4, g5⟩, g6, g7⟩ := hg
      exact rcircle_main cu cw radius step w g1 g2 g3 g4 g5 g6 g7 hN
    · rw [circleR_many hg hN]
      obtain ⟨g1, g2, g3, ⟨g4, g5⟩, g6, g7⟩ := hg
      have hmany := fun W => many_any radius step W (by omega) (by omega) (by omega)
      rw [show decide (1000 < rgN radius step) = true from decide_eq_true (by omega)] at hmany
      have HM := Lib.hid hmany
      clear hmany
      go_enter Try.func16, Try.ntmps16
      go_wp2_with (first
        | (go_at_call 28; (with_reducible refine (in_yes _ _ (by assumption) (by assumption)).mono ?_); rintro e w' ⟨rfl, rfl⟩)
        | (go_at_call 25; refine (HM.out _).mono ?_; rintro e w' ⟨rfl, rfl⟩))
      go_ret2
      exact ⟨none, 0, rfl, World.ownsRow_nil _ _ _ _, bel⟩
  · rw [circleR_bad hg]
    rcases bad_cases hg with h | ⟨g1, h⟩ | ⟨g1, g2, h⟩ | ⟨g1, g2, g3, h⟩ | ⟨g1, g2, g3, g4, g5, h⟩
    all_goals
      clear hg
      go_enter Try.func16, Try.ntmps16
      go_wp2_with (first
        | (go_at_call 28; (with_reducible refine (in_no _ _ h).mono ?_); rintro e w' ⟨rfl, rfl⟩)
        | (go_at_call 28; (with_reducible refine (in_yes _ _ (by assumption) (by assumption)).mono ?_); rintro e w' ⟨rfl, rfl⟩))
      go_ret2
      exact ⟨none, 0, rfl, World.ownsRow_nil _ _ _ _, bel⟩
end Go.Proofs.Ytnbfhdapdlpgiaa

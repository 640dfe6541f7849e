/-
  cncref15.Rectangle: the motions of a rectangular pocket.
-/
import Derived.Test.YtnbfhdapdlpgiaaItems15
import Derived.BigQuiet
namespace Go.Proofs.Ytnbfhdapdlpgiaa
open Go Go.RowKit
set_option linter.unusedVariables false

/-- Half the width or half the depth of a ring. -/
def hlf (wd size r : Int) : Int := if 0 < wd - (size - r) then wd - (size - r) else 0
/-- The greater one. -/
def mxx (wd dp : Int) : Int := if wd < dp then dp else wd
/-- The five motions of a ring. -/
def ringR (cu cw wd dp size r : Int) : List (List Value) :=
  [lineL (cu + hlf wd size r) (cw - hlf dp size r), lineL (cu + hlf wd size r) (cw + hlf dp size r), lineL (cu - hlf wd size r) (cw + hlf dp size r), lineL (cu - hlf wd size r) (cw - hlf dp size r), lineL (cu + hlf wd size r) (cw - hlf dp size r)]
def recL (cu cw wd dp size : Int) (rs : List Int) : List (List Value) := rs.flatMap (ringR cu cw wd dp size)
theorem recL_snoc (cu cw wd dp size r : Int) (rs : List Int) : recL cu cw wd dp size (rs ++ [r]) = recL cu cw wd dp size rs ++ ringR cu cw wd dp size r := by simp [recL]
theorem recL_len (cu cw wd dp size : Int) (rs : List Int) : (recL cu cw wd dp size rs).length = 5 * rs.length := by
  induction rs with
  | nil => rfl
  | cons r rs ih => simp only [recL, List.flatMap_cons, List.length_append, ringR, List.length_cons, List.length_nil] at ih ⊢; omega
def rectL (cu cw wd dp step : Int) : List (List Value) := recL cu cw wd dp (mxx wd dp) (ringsL (mxx wd dp) step) ++ [lineL cu cw]
def goodR (cu cw wd dp step : Int) : Prop := 0 ≤ wd ∧ wd ≤ 1048576 ∧ 0 ≤ dp ∧ dp ≤ 1048576 ∧ (0 < wd ∨ 0 < dp) ∧ 1 ≤ step ∧ (-1048576 ≤ cu ∧ cu ≤ 1048576) ∧ (-1048576 ≤ cw ∧ cw ≤ 1048576)
theorem five_one (p q r s t p' q' r' s' t' : Int) : ∀ x ∈ (lineL p p' ++ (lineL q q' ++ (lineL r r' ++ (lineL s s' ++ lineL t t')))), x.oneCell' = true := by simp [lineL, Value.oneCell']

set_option maxRecDepth 100000 in
set_option maxHeartbeats 8000000 in
theorem rrect_main (cu cw wd dp step : Int) (w : World) (hg : goodR cu cw wd dp step) (hN : rgN (mxx wd dp) step ≤ 1000) :
    Calls Try.prog 20 #[.agg #[.int .i64 cu, .int .i64 cw], .int .i64 wd, .int .i64 dp, .int .i64 step] w (Out w (rectL cu cw wd dp step) 0) := by
  unfold rectL
  obtain ⟨g1, g2, g3, g4, g5, g6, ⟨u1, u2⟩, v1, v2⟩ := hg
  have hsz : (if wd < dp then dp else wd) = mxx wd dp := rfl
  have hs1 : 1 ≤ mxx wd dp ∧ mxx wd dp ≤ 1048576 := by unfold mxx; split <;> omega
  generalize mxx wd dp = size at *
  obtain ⟨hs1, hs2⟩ := hs1
  obtain ⟨i0, hi, hz0, hz1, hz2⟩ := info_parts infoItem
  have hmany := fun W => many_any size step W (by omega) (by omega) (by omega)
  rw [show decide (1000 < rgN size step) = false from decide_eq_false (by omega)] at hmany
  have HM := Lib.hid hmany
  have hpos := rgN_pos (show 1 ≤ size by omega) (show 1 ≤ step by omega)
  clear hmany
  have hb0 := Blk.new w 29 #[.int .i64 cu, .int .i64 cw]
  have bel0 := (Below.refl w.heap.size w).alloc (Nat.le_refl _) (.cells #[.int .i64 cu, .int .i64 cw] 29)
  have hwd : ((wd == 0) = true ∧ (dp == 0) = false) ∨ ((wd == 0) = false ∧ True) := by
    by_cases h : wd = 0
    · exact .inl ⟨by simp [h], by simp; omega⟩
    · exact .inr ⟨by simp [h], trivial⟩
  rcases hwd with ⟨z1, z2⟩ | ⟨z1, z2⟩
  rotate_left
  all_goals
    go_enter Try.func20, Try.ntmps20
    go_wp2_with (first
      | (go_at_call 28; ((with_reducible refine (in_yes _ _ (by assumption) (by assumption)).mono ?_); rintro e w' ⟨rfl, rfl⟩))
      | (go_at_call 25; refine (HM.out _).mono ?_; rintro e w' ⟨rfl, rfl⟩))
    refine (rRings_any size step _ (by omega)).mono ?_
    rintro e W1 ⟨vl, rfl, ownl, bell⟩
    rw [show RingsRow size step = ringsL size step from if_pos ⟨by omega, by omega, hN⟩, ringsL_len] at ownl
    obtain ⟨la, lc, rfl⟩ := own_form ownl
    have hints : IntsAt W1 la (rgN size step) (fun i => (ringsL size step).getD i 0) := IntsAt.own ownl
    have hcb := hb0.below bell hb0.lt
    have bel1 := bel0.trans (bell.mono (by simp))
    have hcl := hcb.lt
    have HI := Lib.hid hints
    clear ownl bell hb0 bel0 hints
    go_wp2_with fail
    go_loopw [11, 13] (fun v8 v10 wr => ∃ j : Nat, j ≤ rgN size step ∧ v10 = .int .i64 j ∧ wr.ownsRow W1.heap.size 40 22 v8 (recL cu cw wd dp size ((ringsL size step).take j)).length (recL cu cw wd dp size ((ringsL size step).take j)).flatten ∧ Below W1.heap.size W1 wr)
      (fun _ v10 _ => rgN size step - (intOf v10).toNat)
    case atStart => exact ⟨0, by omega, rfl, World.ownsRow_nil _ _ _ _, Below.refl _ _⟩
    case round =>
      obtain ⟨j, hj, rfl, own, bel⟩ := hrel
      have hlen := recL_len cu cw wd dp size ((ringsL size step).take j)
      rw [List.length_take, ringsL_len, Nat.min_eq_left hj] at hlen
      have c0 := (hcb.below bel hcl).cell' 0 rfl
      have c1 := (hcb.below bel hcl).cell' 1 rfl
      have hszr := bel.size
      by_cases hlt : j < rgN size step
      · obtain ⟨b0, o, rfl, hbl, hc⟩ := HI.out j hlt
        have hr := ringsL_at hlt
        have hrb := ring_bd (show 1 ≤ size by omega) (show 1 ≤ step by omega) hlt
        have hts := ringsL_take_succ size step j hlt
        dsimp only at hc
        rw [show (ringsL size step).getD j 0 = ring size step j by simp [List.getD, hr]] at hc
        generalize ring size step j = r at hc hrb hts
        obtain ⟨hr1, hr2⟩ := hrb
        have cr := (bel.cell (p := ⟨b0, o + j, none⟩) hbl).trans hc
        have E1 : recL cu cw wd dp size ((ringsL size step).take (j + 1)) = recL cu cw wd dp size ((ringsL size step).take j) ++ ringR cu cw wd dp size r := by rw [hts]; exact recL_snoc _ _ _ _ _ _ _
        unfold ringR at E1
        have ha : (if 0 < wd - (size - r) then wd - (size - r) else 0) = hlf wd size r := rfl
        have hb : (if 0 < dp - (size - r) then dp - (size - r) else 0) = hlf dp size r := rfl
        have hab : 0 ≤ hlf wd size r ∧ hlf wd size r ≤ 1048576 := by unfold hlf; split <;> omega
        have hbb : 0 ≤ hlf dp size r ∧ hlf dp size r ≤ 1048576 := by unfold hlf; split <;> omega
        generalize hlf wd size r = a at *
        generalize hlf dp size r = b at *
        obtain ⟨ha1, ha2⟩ := hab
        obtain ⟨hb1, hb2⟩ := hbb
        have EE := Lib.hid E1
        have w1 : IntKind.i64.wrap (size - r) = size - r := by rw [IntKind.wrap_i64]; omega
        have w2 : IntKind.i64.wrap (wd - (size - r)) = wd - (size - r) := by rw [IntKind.wrap_i64]; omega
        have w3 : IntKind.i64.wrap (dp - (size - r)) = dp - (size - r) := by rw [IntKind.wrap_i64]; omega
        have i1 : (0 : Int) ≤ (j : Int) := by omega
        have i2 : (j : Int) < (rgN size step : Int) := by omega
        have d1 : decide (j < rgN size step) = true := by simp; omega
        have HLEN := Lib.hid hlen
        have hl2 : (recL cu cw wd dp size ((ringsL size step).take j)).length ≤ 5000 := by omega
        clear hr hts hc hlen E1
        obtain ⟨len, elen⟩ : ∃ len, (recL cu cw wd dp size ((ringsL size step).take j)).length = len := ⟨_, rfl⟩
        have ELEN := Lib.hid elen
        rw [elen] at own hl2
        clear elen
        have HA := Lib.hid ha
        have HB := Lib.hid hb
        clear ha hb
        go_upto_region 11 with fail
        go_cut [14, 15] (fun s14 s15 wx => s14 = .int .i64 a ∧ s15 = .int .i64 b ∧ ∃ n, wx = wr.drewN n)
        case first =>
          by_cases p1 : 0 < wd - (size - r)
          all_goals
            by_cases p2 : 0 < dp - (size - r)
            all_goals
              have e1 := HA.out
              have e2 := HB.out
              first | rw [if_pos p1] at e1 | rw [if_neg p1] at e1
              first | rw [if_pos p2] at e2 | rw [if_neg p2] at e2
              have E1 := Lib.hid e1
              have E2 := Lib.hid e2
              clear e1 e2
              go_quiet (fail)
              all_goals
                go_wp2_with fail
                go_meet
                exact ⟨by rw [← E1.out]; try (congr 1; omega), by rw [← E2.out]; try (congr 1; omega), _, rfl⟩
        case rest =>
          obtain ⟨rfl, rfl, n, rfl⟩ := hcut
          have q1 : IntKind.i64.wrap (cu + a) = cu + a := by rw [IntKind.wrap_i64]; omega
          have q2 : IntKind.i64.wrap (cu - a) = cu - a := by rw [IntKind.wrap_i64]; omega
          have q3 : IntKind.i64.wrap (cw + b) = cw + b := by rw [IntKind.wrap_i64]; omega
          have q4 : IntKind.i64.wrap (cw - b) = cw - b := by rw [IntKind.wrap_i64]; omega
          clear cr w1 w2 w3
          go_wp2_with fail
          go_quiet (fail)
          go_wp2_with fail
          refine (rline_any (cu + a) (cw - b) _).mono ?_
          rintro e x0 ⟨rfl, bx0⟩
          have gx0 : wr.grownBy x0 none := grown_trans (grown_drewN (grown_refl wr none) _) (grown_of_below bx0)
          clear bx0
          go_wp2_with fail
          refine (rline_any (cu + a) (cw + b) _).mono ?_
          rintro e x1 ⟨rfl, bx1⟩
          have gx1 : wr.grownBy x1 none := grown_trans gx0 (grown_of_below bx1)
          clear bx1
          go_wp2_with fail
          refine (rline_any (cu - a) (cw + b) _).mono ?_
          rintro e x2 ⟨rfl, bx2⟩
          have gx2 : wr.grownBy x2 none := grown_trans gx1 (grown_of_below bx2)
          clear bx2
          go_wp2_with fail
          refine (rline_any (cu - a) (cw - b) _).mono ?_
          rintro e x3 ⟨rfl, bx3⟩
          have gx3 : wr.grownBy x3 none := grown_trans gx2 (grown_of_below bx3)
          clear bx3
          go_wp2_with fail
          refine (rline_any (cu + a) (cw - b) _).mono ?_
          rintro e x4 ⟨rfl, bx4⟩
          have gx4 : wr.grownBy x4 none := grown_trans gx3 (grown_of_below bx4)
          clear bx4
          have ownx := own.kept gx4 (Classical.em _)
          have belx := bel.trans ((below_of_grown0 gx4).mono hszr)
          have hszx := belx.size
          go_wp2_with (first
            | ((with_reducible refine go_buildSlice 30 40 5 _ (lineL (cu + a) (cw - b) ++ (lineL (cu + a) (cw + b) ++ (lineL (cu - a) (cw + b) ++ (lineL (cu - a) (cw - b) ++ lineL (cu + a) (cw - b))))).toArray i0 _ Try.underlying30 hi hz0 (by rw [hz1]; with_unfolding_all decide) (by rw [hz1]; with_unfolding_all decide) (by rw [hz1]; with_unfolding_all kernel_rfl) ?_))
            | (at_builtin; refine wpList_append_own _ rfl (.tmp 93) (.tmp 129) 30 rfl W1.heap.size 40 i0 (.agg #[.int .i64 0, .int .i64 0, .int .i64 0, .int .i64 0, .int .i64 0, .int .i64 0, .int .i64 0, .int .i64 0, .int .i64 0, .int .i64 0, .int .i64 0, .int .i64 0, .int .i64 0, .bool false, .int .i64 0, .bool false, .int .i64 0, .int .i64 0, .int .i64 0, .int .i64 0, .int .i64 0, .bool false]) 22 176 Try.underlying30 hi hz0 hz1 hz2 rfl (by decide) _ len _ rfl (ownx.alloc _) ⟨_, 0, none⟩ 5 5 (lineL (cu + a) (cw - b) ++ (lineL (cu + a) (cw + b) ++ (lineL (cu - a) (cw + b) ++ (lineL (cu - a) (cw - b) ++ lineL (cu + a) (cw - b))))) rfl rfl (news_made _ _ _) (five_one _ _ _ _ _ _ _ _ _ _) (by unfold maxLen; omega) (by omega) (by simp; omega) ?_; intro v' w2 own2 hgrow _))
          have bel2 : Below W1.heap.size W1 w2 := (belx.alloc hszx (.cells (lineL (cu + a) (cw - b) ++ (lineL (cu + a) (cw + b) ++ (lineL (cu - a) (cw + b) ++ (lineL (cu - a) (cw - b) ++ lineL (cu + a) (cw - b))))).toArray 40)).grown hgrow (by simp; omega) (fun k e => (ownx.lt k e).1)
          have own3 : w2.ownsRow W1.heap.size 40 22 v' (recL cu cw wd dp size ((ringsL size step).take (j + 1))).length (recL cu cw wd dp size ((ringsL size step).take (j + 1))).flatten := by
            rw [EE.out, List.length_append, ELEN.out, List.flatten_append]
            simpa using own2
          clear own2 hgrow belx ownx hszx
          go_wp2_with fail
          go_roundw
          case rel => exact ⟨j + 1, hlt, by go_num, own3, bel2⟩
          case measure => simp [intOf]; omega
      · obtain rfl : j = rgN size step := by omega
        have hall : (ringsL size step).take (rgN size step) = ringsL size step := by rw [List.take_of_length_le (by rw [ringsL_len]; omega)]
        rw [hall] at own hlen
        obtain ⟨len, elen⟩ : ∃ len, (recL cu cw wd dp size (ringsL size step)).length = len := ⟨_, rfl⟩
        rw [elen] at hlen
        have ELEN := Lib.hid elen
        have hl2 : len ≤ 5000 := by omega
        rw [elen] at own
        have q4 : w.heap.size < wr.heap.size := by omega
        clear elen hlen hall
        go_wp2_with fail
        refine (rline_any cu cw _).mono ?_
        rintro e wl ⟨rfl, belw⟩
        have gl : wr.grownBy wl none := grown_of_below belw
        have q3 := gl.size
        have hrl := own.kept gl (Classical.em _)
        go_wp2_with (first
          | ((with_reducible refine go_buildSlice 30 40 1 _ (lineL cu cw).toArray i0 _ Try.underlying30 hi hz0 (by rw [hz1]; with_unfolding_all decide) (by rw [hz1]; with_unfolding_all decide) (by rw [hz1]; with_unfolding_all kernel_rfl) ?_))
          | (at_builtin; refine wpList_append_own _ rfl (.tmp 131) (.tmp 137) 30 rfl W1.heap.size 40 i0 (.agg #[.int .i64 0, .int .i64 0, .int .i64 0, .int .i64 0, .int .i64 0, .int .i64 0, .int .i64 0, .int .i64 0, .int .i64 0, .int .i64 0, .int .i64 0, .int .i64 0, .int .i64 0, .bool false, .int .i64 0, .bool false, .int .i64 0, .int .i64 0, .int .i64 0, .int .i64 0, .int .i64 0, .bool false]) 22 176 Try.underlying30 hi hz0 hz1 hz2 rfl (by decide) _ len _ rfl (hrl.alloc _) ⟨wl.heap.size, 0, none⟩ 1 1 (lineL cu cw) rfl rfl (news_made _ _ _) (one_one _ _) (by unfold maxLen; omega) (by omega) (by simp; omega) ?_; intro v' w1 hown' hgrow _))
        obtain ⟨a', c', rfl⟩ := own_form hown'
        have B1 : Below w.heap.size w wr := bel1.trans (bel.mono (by omega))
        have B2 : Below w.heap.size w wl := B1.trans ((below_of_grown0 gl).mono (by omega))
        have B3 : Below w.heap.size w w1 := (B2.alloc (by omega) (.cells (lineL cu cw).toArray 40)).grown hgrow (by have := B2.size; simp; omega) (fun k e => by have := (hrl.lt k e).1; omega)
        have e1 : (recL cu cw wd dp size (ringsL size step) ++ [lineL cu cw]).length = len + 1 := by rw [List.length_append, ELEN.out]; rfl
        have e2 : (recL cu cw wd dp size (ringsL size step) ++ [lineL cu cw]).flatten = (recL cu cw wd dp size (ringsL size step)).flatten ++ lineL cu cw := by rw [List.flatten_append]; simp
        go_ret2
        refine ⟨a', c', by rw [e1]; rfl, ?_, B3⟩
        rw [e1, e2]
        exact own_base hown' (by omega)
end Go.Proofs.Ytnbfhdapdlpgiaa

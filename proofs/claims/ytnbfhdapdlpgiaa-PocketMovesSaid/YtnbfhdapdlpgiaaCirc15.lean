/-
  pocket.Circle: the motions of a circular pocket, where its arguments are good.
-/
import Derived.Test.YtnbfhdapdlpgiaaRef15
import Derived.Deep.AppendLies
namespace Go.Proofs.Ytnbfhdapdlpgiaa
open Go Go.RowKit Go.Shelf
set_option linter.unusedVariables false
attribute [local go_sem] Oper.semAt_some

/-- The two motions of a ring. -/
def ringC (cu cw r : Int) : List (List Value) := [lineL (cu + r) cw, turnL (cu + r) cw cu cw]
def circL (cu cw : Int) (rs : List Int) : List (List Value) := rs.flatMap (ringC cu cw)
theorem circL_snoc (cu cw r : Int) (rs : List Int) : circL cu cw (rs ++ [r]) = circL cu cw rs ++ [lineL (cu + r) cw, turnL (cu + r) cw cu cw] := by simp [circL, ringC]
theorem circL_len (cu cw : Int) (rs : List Int) : (circL cu cw rs).length = 2 * rs.length := by
  induction rs with
  | nil => rfl
  | cons r rs ih => simp only [circL, List.flatMap_cons, List.length_append, ringC, List.length_cons, List.length_nil] at ih ⊢; omega
theorem circL_flat (cu cw : Int) (rs : List Int) : (circL cu cw rs).flatten.length = 44 * rs.length := by
  induction rs with
  | nil => rfl
  | cons r rs ih => simp only [circL, List.flatMap_cons, List.flatten_append, List.length_append, ringC, List.flatten_cons, List.flatten_nil, List.length_cons, List.length_nil, lineL, turnL] at ih ⊢; omega
def circleL (cu cw radius step : Int) : List (List Value) := circL cu cw (ringsL radius step) ++ [lineL cu cw]
/-- A list of items and an error number come back; nothing old has turned. -/
def Out (w : World) (l : List (List Value)) (err : Int) (e : Ending) (w' : World) : Prop :=
  ∃ a c, e = .returned (.tuple #[.slice a l.length c, .int .i64 err]) ∧ w'.ownsRow w.heap.size 40 22 (.slice a l.length c) l.length l.flatten ∧ Below w.heap.size w w'

theorem infoItem : (Try.prog.info? 40).map (fun i => (i.zero, i.size, i.bytes)) = some (some (.agg #[.int .i64 0, .int .i64 0, .int .i64 0, .int .i64 0, .int .i64 0, .int .i64 0, .int .i64 0, .int .i64 0, .int .i64 0, .int .i64 0, .int .i64 0, .int .i64 0, .int .i64 0, .bool false, .int .i64 0, .bool false, .int .i64 0, .int .i64 0, .int .i64 0, .int .i64 0, .int .i64 0, .bool false]), 22, 176) := by kernel_rfl

theorem wide_and {f : FuncId} {p : Prop} (h : p) : Fence.wide.fn f ∧ p := ⟨trivial, h⟩
/-- What a new block holds may be appended. -/
theorem news_made (W : World) (l : List Value) (t : TypeId) : ∀ j u, l[j]? = some u → (W.alloc (.cells l.toArray t)).cell? ((⟨W.heap.size, 0, none⟩ : Addr).add j) = some u := by
  intro j u hu
  rw [Addr.add_mid, Nat.zero_add, (Blk.new W t l.toArray).cell]
  simpa using hu
theorem pair_one (u v cu cw : Int) : ∀ x ∈ lineL u v ++ turnL u v cu cw, x.oneCell' = true := by simp [lineL, turnL, Value.oneCell']
theorem one_one (u v : Int) : ∀ x ∈ lineL u v, x.oneCell' = true := by simp [lineL, Value.oneCell']
/-- A slice of one motion is made. -/
theorem slice1 (u v : Int) (W : World) : (Instr.buildSlice 30 1 #[(0, .agg (lineL u v).toArray)]).run Try.prog W = .ok (.slice (some ⟨W.heap.size, 0, none⟩) 1 1) (W.alloc (.cells (lineL u v).toArray 40)) := by
  obtain ⟨i0, hi, hz0, hz1, hz2⟩ := info_parts infoItem
  exact run_buildSlice W _ 40 1 _ (lineL u v).toArray i0 _ Try.underlying30 hi hz0 (by rw [hz1]; decide) (by rw [hz1]; decide) (by rw [hz1]; kernel_rfl)
attribute [local go_sem ↓] slice1
/-- A cell behind a new block and an append elsewhere. -/
theorem far_cell {wl w1 : World} {o : Obj} {row : Option Nat} {p : Addr} {x : Value} (hg : (wl.alloc o).grownBy w1 row) (hlt : p.block < wl.heap.size) (hne : some p.block ≠ row) (hc : wl.cell? p = some x) : w1.cell? p = some x :=
  (World.cell?_of_block (hg.block p.block (by simp; omega) hne)).trans ((World.cell?_alloc_lt wl o p hlt).trans hc)
/-- The frame gets a name. -/
theorem cap_frame {F : Fence} {n : Nat} {P : Program} {c : Code} {Q : Exit → Act → World → Prop} {a : Act} {w : World} (h : ∀ a', a' = a → c.wpIn F n P Q a' w) : c.wpIn F n P Q a w := h a rfl
/-- A new item that holds the cells c. -/
theorem item_made {W w1 : World} {c : Array Value} (h : W.grownBy w1 none) (z : Array Value) : W.grownBy ((w1.alloc (.cells z 40)).setRow w1.heap.size c) none ∧ Blk ((w1.alloc (.cells z 40)).setRow w1.heap.size c) w1.heap.size 40 c :=
  ⟨grown_setRow (grown_alloc h _) (.inr h.size) _, (Blk.new w1 _ z).setRow c⟩

set_option maxRecDepth 100000 in
set_option maxHeartbeats 2000000 in
theorem circle_main (cu cw radius step : Int) (w : World) (h1 : 8 ≤ radius) (h1' : radius ≤ 1048576) (h2 : 8 ≤ step) (u1 : -1048576 ≤ cu) (u2 : cu ≤ 1048576) (v1 : -1048576 ≤ cw) (v2 : cw ≤ 1048576) (hN : rgN radius step ≤ 1000) :
    Calls Try.prog 15 #[.agg #[.int .i64 cu, .int .i64 cw], .int .i64 radius, .int .i64 step] w (Out w (circleL cu cw radius step) 0) := by
  obtain ⟨i0, hi, hz0, hz1, hz2⟩ := info_parts infoItem
  have d1 : decide ((1000 : Int) < (rgN radius step : Int)) = false := by simp; omega
  refine (callsIn_wide (n := 6)).1 ?_
  refine callsIn_of_wp_marks Try.func15 rfl trivial ?_ rfl
  simp only [Try.ntmps15, List.size_toArray, List.length_cons, List.length_nil, Nat.reduceAdd, Nat.reduceSub, Array.replicate_succ, Array.replicate_zero, List.push_toArray, List.append_toArray, List.nil_append, List.cons_append]
  gi_wp2_with (refine ⟨trivial, ?_⟩; first
    | (gi_at_call 26; refine (callsIn_wide.2 (coordinate_yes _ _ (by assumption) (by assumption))).mono ?_; rintro e w' ⟨rfl, rfl⟩)
    | (gi_at_call 22; refine (callsIn_wide.2 (count_any radius step _ (by omega) (by omega) (by omega))).mono ?_; rintro e w' ⟨rfl, rfl⟩)
    | (gi_at_call 24; refine (callsIn_wide.2 (rings_any radius step _)).mono ?_; rintro e w' ⟨rfl, rfl⟩))
  have hB0 : Below (w.heap.size + 1) (w.alloc (.cells #[.int .i64 cu, .int .i64 cw] 29)) (((((w.alloc (.cells #[.int .i64 cu, .int .i64 cw] 29))).alloc (.cells #[.slice none 0 0] 30)).alloc (.cells #[.int .i64 radius] 3)).alloc (.cells #[.int .i64 step] 3)) :=
    ((((Below.refl _ _).alloc (by simp) _).alloc (by simp) _).alloc (by simp) _)
  have bO : Boxed (((((w.alloc (.cells #[.int .i64 cu, .int .i64 cw] 29))).alloc (.cells #[.slice none 0 0] 30)).alloc (.cells #[.int .i64 radius] 3)).alloc (.cells #[.int .i64 step] 3)) (w.heap.size + 1) 30 (.slice none 0 0) := by
    have := ((Boxed.new (w.alloc (.cells #[.int .i64 cu, .int .i64 cw] 29)) 30 (.slice none 0 0)).alloc (.cells #[.int .i64 radius] 3)).alloc (.cells #[.int .i64 step] 3)
    rwa [World.size_alloc] at this
  have hc0 : (w.alloc (.cells #[.int .i64 cu, .int .i64 cw] 29)).cell? ⟨w.heap.size, 0, none⟩ = some (.int .i64 cu) := by simp [go_sem]
  have hc1 : (w.alloc (.cells #[.int .i64 cu, .int .i64 cw] 29)).cell? ⟨w.heap.size, 1, none⟩ = some (.int .i64 cw) := by simp [go_sem]
  have bR : Boxed (((((w.alloc (.cells #[.int .i64 cu, .int .i64 cw] 29))).alloc (.cells #[.slice none 0 0] 30)).alloc (.cells #[.int .i64 radius] 3)).alloc (.cells #[.int .i64 step] 3)) (w.heap.size + 2) 3 (.int .i64 radius) := by
    have := (Boxed.new (((w.alloc (.cells #[.int .i64 cu, .int .i64 cw] 29))).alloc (.cells #[.slice none 0 0] 30)) 3 (.int .i64 radius)).alloc (.cells #[.int .i64 step] 3)
    simpa using this
  have bS : Boxed (((((w.alloc (.cells #[.int .i64 cu, .int .i64 cw] 29))).alloc (.cells #[.slice none 0 0] 30)).alloc (.cells #[.int .i64 radius] 3)).alloc (.cells #[.int .i64 step] 3)) (w.heap.size + 3) 3 (.int .i64 step) := by
    have := Boxed.new ((((w.alloc (.cells #[.int .i64 cu, .int .i64 cw] 29))).alloc (.cells #[.slice none 0 0] 30)).alloc (.cells #[.int .i64 radius] 3)) 3 (.int .i64 step)
    simpa using this
  refine cap_frame fun a' ha' => ?_
  refine wpIn_rangeFunc_ownG rfl (by omega) (gf := 31) (lb := #[.pointer (some ⟨w.heap.size + 2, 0, none⟩), .pointer (some ⟨w.heap.size + 3, 0, none⟩)]) (by subst ha'; rfl) trivial (enters_of Try.func31 (by kernel_rfl) rfl)
    (rings_stopsR 5 (by omega) (w.heap.size + 2) (w.heap.size + 3) radius step (by omega) (by omega) (by omega) _ (by simp [go_sem]) (by simp [go_sem]) (by simp) (by simp)) kpR_t (kpR_b (by simp) (by simp)) (Below.refl _ _) (fun _ => rfl)
    (fun pre W => (∃ v, Boxed W (w.heap.size + 1) 30 v ∧ W.ownsRow (w.heap.size + 1) 40 22 v (circL cu cw (pre.map (·.1))).length (circL cu cw (pre.map (·.1))).flatten ∧ True) ∧ (Boxed W (w.heap.size + 2) 3 (.int .i64 radius) ∧ Boxed W (w.heap.size + 3) 3 (.int .i64 step)) ∧ Below (w.heap.size + 1) (w.alloc (.cells #[.int .i64 cu, .int .i64 cw] 29)) W)
    (fun _ _ _ => False)
    (OwnFrom.and (Own.from (holdsRow_own (w.heap.size + 1) (w.heap.size + 1) 30 40 22 (fun pre : List (Rg radius) => (circL cu cw (pre.map (·.1))).length) (fun pre => (circL cu cw (pre.map (·.1))).flatten) (fun pre v => True)) _) (OwnFrom.and (OwnFrom.and (Own.from (boxed_own _ _ _) _) (Own.from (boxed_own _ _ _) _)) (ownFrom_below (by simp) (by simp))))
    (fun _ _ _ _ _ hs _ _ => hs)
    ⟨⟨_, bO, World.ownsRow_nil _ _ _ _, trivial⟩, ⟨bR, bS⟩, hB0⟩
    (fun x => (a'.put (some 43) (.int .i64 x.1)).put (some 9) (.int .i64 x.1)) ?assign ?body ?done ?stop
  case assign =>
    intro l x W K hK
    subst ha'
    simp only [Act.put, List.setIfInBounds_toArray, List.set_cons_zero, List.set_cons_succ] at hK
    gi_wp2
    exact hK
  case body =>
    rintro l pre ⟨x, hx1, hx2⟩ W ⟨⟨v, hv, hrow, _⟩, ⟨hR, hSt⟩, hB⟩ hlt
    have HR := Lib.hid hR
    have HSt := Lib.hid hSt
    subst ha'
    simp only [Act.put, List.setIfInBounds_toArray, List.set_cons_zero, List.set_cons_succ]
    have c0 := (hB.cell (p := ⟨w.heap.size, 0, none⟩) (by simp)).trans hc0
    have c1 := (hB.cell (p := ⟨w.heap.size, 1, none⟩) (by simp)).trans hc1
    have hsz : w.heap.size + 1 ≤ W.heap.size := by have := hB.size; simpa using this
    have hlen := circL_len cu cw (pre.map (·.1))
    rw [List.length_map] at hlen
    have hl1 : (circL cu cw (pre.map (·.1))).length ≤ 2000 := by omega
    have HLEN := Lib.hid hlen
    clear hlen hB0 bO hc0 hc1 hR hSt bR bS
    obtain ⟨len, elen⟩ : ∃ len, (circL cu cw (pre.map (·.1))).length = len := ⟨_, rfl⟩
    have ELEN := Lib.hid elen
    rw [elen] at hrow hl1
    clear elen
    gi_wp2_with (first
      | ((with_reducible refine wide_and ?_); gi_at_call 27; refine (CallsIn.inRound l (callsIn_wide.2 (pline_any (cu + x) cw _))).mono ?_; rintro e wl ⟨rfl, bell⟩; have gl := grown_of_below bell)
      | ((with_reducible refine gi_store_row 40 (.tmp 10) (.tmp 50) wl.heap.size (lineL (cu + x) cw).toArray 40 #[.int .i64 0, .int .i64 0, .int .i64 0, .int .i64 0, .int .i64 0, .int .i64 0, .int .i64 0, .int .i64 0, .int .i64 0, .int .i64 0, .int .i64 0, .int .i64 0, .int .i64 0, .bool false, .int .i64 0, .bool false, .int .i64 0, .int .i64 0, .int .i64 0, .int .i64 0, .int .i64 0, .bool false] (by with_unfolding_all (rfl)) (by with_unfolding_all (rfl)) (by with_unfolding_all (exact Blk.new wl _ _)) (by with_unfolding_all (kernel_rfl)) (by with_unfolding_all (rfl)) (line_one _ _) ?_); refine on_told (fun w' => W.grownBy w' none ∧ Blk w' wl.heap.size 40 (lineL (cu + x) cw).toArray) (item_made gl _) ?_; rintro W1 ⟨g1, b1⟩; have b1l := b1.lt; have k0 := ((below_of_grown0 g1).cell (p := ⟨w.heap.size, 0, none⟩) (by show w.heap.size < _; omega)).trans c0; have k1 := ((below_of_grown0 g1).cell (p := ⟨w.heap.size, 1, none⟩) (by show w.heap.size < _; omega)).trans c1; have t5 : W1.cell? ⟨wl.heap.size, 5, none⟩ = some (.int .i64 (cu + x)) := b1.cell' 5 rfl; have t6 : W1.cell? ⟨wl.heap.size, 6, none⟩ = some (.int .i64 cw) := b1.cell' 6 rfl; have t7 : W1.cell? ⟨wl.heap.size, 7, none⟩ = some (.int .i64 0) := b1.cell' 7 rfl)
      | ((with_reducible refine gi_built 38 _ #[.int .i64 cu, .int .i64 cw, .int .i64 0] (by with_unfolding_all (kernel_rfl)) ?_))
      | ((with_reducible refine gi_built 40 _ (turnL (cu + x) cw cu cw).toArray (by with_unfolding_all (kernel_rfl)) ?_))
      | ((with_reducible refine gi_store_row 40 (.tmp 11) (.tmp 58) W1.heap.size (turnL (cu + x) cw cu cw).toArray 40 #[.int .i64 0, .int .i64 0, .int .i64 0, .int .i64 0, .int .i64 0, .int .i64 0, .int .i64 0, .int .i64 0, .int .i64 0, .int .i64 0, .int .i64 0, .int .i64 0, .int .i64 0, .bool false, .int .i64 0, .bool false, .int .i64 0, .int .i64 0, .int .i64 0, .int .i64 0, .int .i64 0, .bool false] (by with_unfolding_all (rfl)) (by with_unfolding_all (rfl)) (by with_unfolding_all (exact Blk.new W1 _ _)) (by with_unfolding_all (kernel_rfl)) (by with_unfolding_all (rfl)) (turn_one _ _ _ _) ?_); refine on_told (fun w' => W.grownBy w' none ∧ Blk w' wl.heap.size 40 (lineL (cu + x) cw).toArray ∧ Blk w' W1.heap.size 40 (turnL (cu + x) cw cu cw).toArray) ⟨(item_made g1 _).1, (b1.alloc _).rowFar (by omega) _, (item_made g1 _).2⟩ ?_; rintro W2 ⟨g2, b2, b3⟩; have hv2 := hv.kept g2 (by simp); have hc2 := hv2.cell; have hrow2 := hrow.kept g2 (Classical.em _); have hs2 := g2.size)
      | ((with_reducible refine gi_load_row 40 (.tmp 10) wl.heap.size 40 (lineL (cu + x) cw).toArray _ (by with_unfolding_all (rfl)) (by with_unfolding_all (exact b2)) Try.underlying40 (by with_unfolding_all (rfl)) (by with_unfolding_all (kernel_rfl)) ?_))
      | ((with_reducible refine gi_load_row 40 (.tmp 11) W1.heap.size 40 (turnL (cu + x) cw cu cw).toArray _ (by with_unfolding_all (rfl)) (by with_unfolding_all (exact b3)) Try.underlying40 (by with_unfolding_all (rfl)) (by with_unfolding_all (kernel_rfl)) ?_))
      | ((with_reducible refine gi_buildSlice 30 40 2 _ (lineL (cu + x) cw ++ turnL (cu + x) cw cu cw).toArray i0 _ Try.underlying30 hi hz0 (by rw [hz1]; with_unfolding_all decide) (by rw [hz1]; with_unfolding_all decide) (by rw [hz1]; with_unfolding_all kernel_rfl) ?_))
      | (gi_at_builtin; refine wpListIn_append_own _ (by rfl) (.tmp 59) (.tmp 62) 30 (by rfl) (w.heap.size + 1) 40 i0 (.agg #[.int .i64 0, .int .i64 0, .int .i64 0, .int .i64 0, .int .i64 0, .int .i64 0, .int .i64 0, .int .i64 0, .int .i64 0, .int .i64 0, .int .i64 0, .int .i64 0, .int .i64 0, .bool false, .int .i64 0, .bool false, .int .i64 0, .int .i64 0, .int .i64 0, .int .i64 0, .int .i64 0, .bool false]) 22 176 Try.underlying30 hi hz0 hz1 hz2 rfl (by decide) v len _ (by rfl) (hrow2.alloc _) ⟨W2.heap.size, 0, none⟩ 2 2 (lineL (cu + x) cw ++ turnL (cu + x) cw cu cw) (by rfl) rfl (news_made _ _ _) (pair_one _ _ _ _) (by unfold maxLen; omega) (by omega) (by simp; omega) ?_; intro v' w1 hown' hgrow _; obtain ⟨a', c', rfl⟩ := own_form hown'; obtain ⟨hv1, hv2', hr2, hk2, hb2⟩ := hv2.appended (by decide) hrow2 (by omega) (Nat.le_refl _) hown' hgrow; have hc1 := hv1.cell; have hf1 := hv1.frozen))
    have E1 : circL cu cw ((pre ++ [(⟨x, hx1, hx2⟩ : Rg radius)]).map (·.1)) = circL cu cw (pre.map (·.1)) ++ [lineL (cu + x) cw, turnL (cu + x) cw cu cw] := by
      rw [List.map_append]; exact circL_snoc _ _ _ _
    have B2 := (below_of_grown0 g2).mono hsz
    have eR := (((((HR.out.kept g2 (by simp)).alloc _).kept hgrow (by have := (HR.out.kept g2 (by simp)).not_row (by decide) hrow2; simpa using this)) : Boxed w1 _ _ _)).other (B' := w.heap.size + 1) (by omega) (.slice a' (len + 2) c')
    have eS := (((((HSt.out.kept g2 (by simp)).alloc _).kept hgrow (by have := (HSt.out.kept g2 (by simp)).not_row (by decide) hrow2; simpa using this)) : Boxed w1 _ _ _)).other (B' := w.heap.size + 1) (by omega) (.slice a' (len + 2) c')
    refine ⟨((KeepsOthers.of_grownBy g2 (by simp)).trans hk2).from _, ⟨eR.cell.trans HR.out.cell.symm, eS.cell.trans HSt.out.cell.symm⟩, ⟨_, hv2', ?_, trivial⟩, ⟨eR, eS⟩, (hB.trans B2).trans hb2⟩
    rw [E1, List.length_append, ELEN.out, List.flatten_append]
    simpa using hr2
  case done =>
    rintro D ys W hD hS ⟨⟨v, hv, hrow, _⟩, _, hB⟩ hK
    subst ha'
    have c0 := (hB.cell (p := ⟨w.heap.size, 0, none⟩) (by simp)).trans hc0
    have c1 := (hB.cell (p := ⟨w.heap.size, 1, none⟩) (by simp)).trans hc1
    rw [hS] at hrow
    have hsz : w.heap.size + 1 ≤ W.heap.size := by have := hB.size; simpa using this
    have hlen := circL_len cu cw (ringsL radius step)
    rw [ringsL_len] at hlen
    have hl1 : (circL cu cw (ringsL radius step)).length ≤ 2000 := by omega
    have hv0 := hv.cell
    clear hlen hB0 bO hc0 hc1 bR bS
    gi_wp2
    refine wpIn_wide.2 ?_
    have hlw : w.heap.size + 1 < W.heap.size := hv.lt
    obtain ⟨len, elen⟩ : ∃ len, (circL cu cw (ringsL radius step)).length = len := ⟨_, rfl⟩
    have ELEN := Lib.hid elen
    rw [elen] at hrow hl1
    clear elen
    have hne1 : some (w.heap.size + 1) ≠ v.ownBlock := hv.not_row (by decide) hrow
    have hne0 : some w.heap.size ≠ v.ownBlock := by intro e; have := (hrow.lt _ e.symm).1; omega
    have HV := Lib.hid hv
    clear hv
    go_region_held3 (fun w' => w'.cell? ⟨w.heap.size + 1, 0, none⟩ = some v ∧ w'.cell? ⟨w.heap.size, 0, none⟩ = some (.int .i64 cu) ∧ w'.cell? ⟨w.heap.size, 1, none⟩ = some (.int .i64 cw) ∧ w.heap.size + 1 < w'.heap.size) (first | exact ⟨by assumption, by assumption, by assumption, by assumption⟩ | (simp [go_sem, *]; done) | (simp [go_sem, *]; omega))
      (first
        | ((go_at_call 27; refine (pline_any cu cw _).mono ?_; rintro e wl ⟨rfl, bell⟩; have gl : W.grownBy wl none := grown_trans (grown_drew (grown_refl W none)) (grown_of_below bell); have q0 := ((below_of_grown0 gl).cell (p := ⟨w.heap.size + 1, 0, none⟩) hlw).trans hv0; have q1 := ((below_of_grown0 gl).cell (p := ⟨w.heap.size, 0, none⟩) (by show w.heap.size < _; omega)).trans c0; have q2 := ((below_of_grown0 gl).cell (p := ⟨w.heap.size, 1, none⟩) (by show w.heap.size < _; omega)).trans c1; have q3 : w.heap.size + 1 < wl.heap.size := (by have := gl.size; omega); have q4 : w.heap.size < wl.heap.size := (by omega); have q5 : w.heap.size ≠ wl.heap.size := (by omega); have q6 : wl.heap.size ≠ w.heap.size := (by omega); dsimp only [lineL]; have hrl := hrow.kept gl (Classical.em _)))
        | ((((with_reducible refine append_guard ?_); with_reducible refine step_append_lit (.tmp 64) (.tmp 70) 30 (w.heap.size + 1) 40 i0 (.agg #[.int .i64 0, .int .i64 0, .int .i64 0, .int .i64 0, .int .i64 0, .int .i64 0, .int .i64 0, .int .i64 0, .int .i64 0, .int .i64 0, .int .i64 0, .int .i64 0, .int .i64 0, .bool false, .int .i64 0, .bool false, .int .i64 0, .int .i64 0, .int .i64 0, .int .i64 0, .int .i64 0, .bool false]) 22 176 Try.underlying30 hi hz0 hz1 hz2 (by with_unfolding_all rfl) (by with_unfolding_all decide) v len _ (by with_unfolding_all rfl) (hrl.alloc _) ⟨wl.heap.size, 0, none⟩ 1 1 (lineL cu cw) (by with_unfolding_all rfl) (by with_unfolding_all rfl) (by with_unfolding_all exact news_made _ _ _) (one_one _ _) (by omega) (by unfold maxLen; omega) (by omega) (by simp; omega) (wl.heap.size + 1) (by simp) ?_); intro g' c' w1 hown' hgrow hat hlt'; have r0 := far_cell (p := ⟨w.heap.size + 1, 0, none⟩) hgrow q3 hne1 q0; have r1 := far_cell (p := ⟨w.heap.size, 0, none⟩) hgrow q4 hne0 q1; have r2 := far_cell (p := ⟨w.heap.size, 1, none⟩) hgrow q4 hne0 q2; have r3 : w.heap.size + 1 < w1.heap.size := (by have := hgrow.size; simp at this; omega))))
    gi_wp2
    have hK1 : w1.heap[D]? = some (.deferred (some [])) := by
      have hDl : D < W.heap.size := (Array.getElem?_eq_some_iff.1 hK).1
      have h1 : wl.heap[D]? = some (.deferred (some [])) := (gl.block D hDl (by simp)).trans hK
      have h2 := (Below.heap_alloc wl (.cells (lineL cu cw).toArray 40) D (by have := gl.size; omega)).trans h1
      refine (hgrow.block D (by have := gl.size; simp; omega) ?_).trans h2
      intro e'
      rcases (hrl.alloc (.cells (lineL cu cw).toArray 40)).2 with ⟨rfl, _⟩ | ⟨g, cap, cur, rfl, _, hh, _⟩
      · simp [Value.ownBlock] at e'
      · obtain rfl : D = g := by simpa [Value.ownBlock] using e'
        rw [h2] at hh
        cases hh
    have hDw : w.heap.size ≤ D := by simp at hD; omega
    have B1 : Below w.heap.size w W := ((Below.refl w.heap.size w).alloc (Nat.le_refl _) _).trans (hB.mono (by omega))
    have B2 : Below w.heap.size w wl := B1.trans ((below_of_grown0 gl).mono (by omega))
    have B3 : Below w.heap.size w w1 := (B2.alloc (by omega) (.cells (lineL cu cw).toArray 40)).grown hgrow (by have := B2.size; simp; omega) (fun k e => by have := (hrl.lt k e).1; omega)
    have e1 : (circleL cu cw radius step).length = len + 1 := by unfold circleL; rw [List.length_append, ELEN.out]; rfl
    have e2 : (circleL cu cw radius step).flatten = (circL cu cw (ringsL radius step)).flatten ++ lineL cu cw := by unfold circleL; rw [List.flatten_append]; simp
    refine ⟨by simp, .inl ⟨_, _, rfl, run_takeDeferred hK1, ?_⟩⟩
    refine ⟨_, results_tmp2 rfl _ _ _, some ⟨g', 0, none⟩, c', by rw [e1]; rfl, ?_, ?_⟩
    · rw [e1, e2]
      exact own_base (ownsRow_putObj hown' _ hK1 rfl) (by omega)
    · exact B3.grown (grownBy_putObj' w1 D _) B3.size (fun k e => by cases e; exact hDw)
  case stop =>
    rintro D c pre W _ _ h _
    exact h.elim
end Go.Proofs.Ytnbfhdapdlpgiaa

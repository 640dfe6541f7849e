/-
  PocketRounds returns true. Its arguments: any.
-/
import Derived.Test.YtnbfhdapdlpgiaaCLaw15
namespace Go.Proofs.Ytnbfhdapdlpgiaa
open Go Go.RowKit
set_option linter.unusedVariables false

theorem circL_even (cu cw : Int) : ∀ (rs : List Int) (k : Nat) (r : Int), rs[k]? = some r → (circL cu cw rs)[2 * k]? = some (lineL (cu + r) cw) ∧ (circL cu cw rs)[2 * k + 1]? = some (turnL (cu + r) cw cu cw)
  | [], k, r, h => by simp at h
  | x :: rs, 0, r, h => by
    simp at h
    subst h
    exact ⟨rfl, rfl⟩
  | x :: rs, k + 1, r, h => by
    have := circL_even cu cw rs k r (by simpa using h)
    have e : circL cu cw (x :: rs) = lineL (cu + x) cw :: turnL (cu + x) cw cu cw :: circL cu cw rs := by simp [circL, ringC]
    rw [e, show 2 * (k + 1) = 2 * k + 1 + 1 by omega, show 2 * k + 1 + 1 + 1 = (2 * k + 1) + 1 + 1 by omega]
    simpa using this
theorem circleL_len (cu cw radius step : Int) : (circleL cu cw radius step).length = 2 * rgN radius step + 1 := by
  unfold circleL
  rw [List.length_append, circL_len, ringsL_len, List.length_singleton]
theorem circleL_at {cu cw radius step : Int} {k : Nat} (h : k < rgN radius step) : (circleL cu cw radius step)[2 * k]? = some (lineL (cu + ring radius step k) cw) ∧ (circleL cu cw radius step)[2 * k + 1]? = some (turnL (cu + ring radius step k) cw cu cw) := by
  have := circL_even cu cw (ringsL radius step) k _ (ringsL_at h)
  have hl := circL_len cu cw (ringsL radius step)
  rw [ringsL_len] at hl
  unfold circleL
  rw [List.getElem?_append_left (by omega), List.getElem?_append_left (by omega)]
  exact this
theorem circleL_last (cu cw radius step : Int) : (circleL cu cw radius step)[2 * rgN radius step]? = some (lineL cu cw) := by
  have hl := circL_len cu cw (ringsL radius step)
  rw [ringsL_len] at hl
  unfold circleL
  rw [List.getElem?_append_right (by omega), hl, Nat.sub_self]
  rfl

theorem eql_line (u v : Int) (W : World) : (binOp .eql 40 (.agg (lineL u v).toArray) (.agg (lineL u v).toArray)).run Try.prog W = .ok (.bool true) W := by unfold lineL; go_simp
/-- A struct is built, in every world of the class. -/
theorem quiet_built {P : Program} {S : World → Prop} {o : Oper} {a : Act} {K : Act → Prop} (t : TypeId) (parts : Array (Nat × Operand)) (h : o.op = .build t parts) (cells : Array Value)
    (hc : P.built t (parts.map fun (i, x) => (i, a.eval x)).toList = some cells) (hk : K (a.put o.dst (.agg cells))) : o.quiet P a (fun w' => ∃ q : At S, w' = q.w) K :=
  ⟨.agg cells, fun w ⟨q, hq⟩ => by
    subst hq
    unfold Oper.quietAt execOp
    simp only [h, Sem.run_bind, run_build q.w t _ cells hc, Result.andThen_ok]
    exact ⟨rfl, rfl⟩, hk⟩
theorem quiet_eql {P : Program} {S : World → Prop} {o : Oper} {a : Act} {K : Act → Prop} (t t' : TypeId) (x y : Operand) (h : o.op = .binOp .eql t x y t') (xs ys : Array Value) (b : Bool) (hx : a.eval x = .agg xs) (hy : a.eval y = .agg ys)
    (hm : P.eqGuardType P.depth t = false) (hr : ∀ q : At S, (binOp .eql t (.agg xs) (.agg ys)).run P q.w = .ok (.bool b) q.w) (hk : K (a.put o.dst (.bool b))) : o.quiet P a (fun w' => ∃ q : At S, w' = q.w) K :=
  ⟨.bool b, fun w ⟨q, hq⟩ => by
    subst hq
    unfold Oper.quietAt execOp
    simp only [h, hx, hy, Sem.run_bind, run_eqGuard_agg _ _ _ _ _ _ _ hm, Result.andThen_ok, hr q, Sem.run_pure]
    exact ⟨rfl, rfl⟩, hk⟩
/-- The greatest ring so far. -/
def mst (R s : Int) (k : Nat) : Int := if k = 0 then 0 else ring R s (k - 1)
theorem mst_lt {R s : Int} {k : Nat} (h1 : 1 ≤ R) (h2 : 1 ≤ s) (h : k < rgN R s) : mst R s k < ring R s k ∧ 0 ≤ mst R s k := by
  unfold mst
  split
  · exact ⟨by have := ring_bd h1 h2 h; omega, by omega⟩
  · have := ring_le (k := k - 1) h1 h2 (by omega)
    have hb := ring_bd (k := k - 1) h1 h2 (by omega)
    rw [show k - 1 + 1 = k by omega] at this
    omega
theorem mst_last {R s : Int} (h : 1 ≤ rgN R s) : mst R s (rgN R s) = R := by
  unfold mst
  rw [if_neg (by omega)]
  exact ring_last (by omega)

set_option maxRecDepth 100000 in
set_option maxHeartbeats 4000000 in
theorem rounds_walk (cc : List Value) (a1 a2 : Int) (w : World) (hc : Leaves w ptKs cc) : Calls Try.prog 6 #[.agg cc.toArray, .int .i64 a1, .int .i64 a2] w fun e w' => e = .returned (.bool true) ∧ Below w.heap.size w w' := by
  obtain ⟨u0, v0, e⟩ := pt_cells hc
  rw [e]
  clear e hc
  have b1 := fun W => between_any u0 (-90000) 90000 W (by omega) (by omega) (by omega) (by omega)
  have b2 := fun W => between_any v0 (-90000) 90000 W (by omega) (by omega) (by omega) (by omega)
  have b3 := fun W => between_any a1 8 3000 W (by omega) (by omega) (by omega) (by omega)
  have b4 := fun W => between_any a2 8 600 W (by omega) (by omega) (by omega) (by omega)
  have hu := between_bd u0 (-90000) 90000 (by omega)
  have hv := between_bd v0 (-90000) 90000 (by omega)
  have hr := between_bd a1 8 3000 (by omega)
  have hs := between_bd a2 8 600 (by omega)
  generalize -90000 + u0 % (90000 - -90000 + 1) = u at *
  generalize -90000 + v0 % (90000 - -90000 + 1) = v at *
  generalize 8 + a1 % (3000 - 8 + 1) = R at *
  generalize 8 + a2 % (600 - 8 + 1) = s at *
  obtain ⟨hu1, hu2⟩ := hu
  obtain ⟨hv1, hv2⟩ := hv
  obtain ⟨hr1, hr2⟩ := hr
  obtain ⟨hs1, hs2⟩ := hs
  have B1 := Lib.hid b1
  have B2 := Lib.hid b2
  have B3 := Lib.hid b3
  have B4 := Lib.hid b4
  clear b1 b2 b3 b4
  have hN : rgN R s ≤ 375 := rgN_le (by omega) (by omega) (by omega)
  have hpos := rgN_pos (show 1 ≤ R by omega) (show 1 ≤ s by omega)
  have hcirc := fun W => circle_any u v R s W
  rw [circleR_ok ⟨by omega, by omega, by omega, by omega, by omega⟩ (by omega)] at hcirc
  dsimp only at hcirc
  have HC := Lib.hid hcirc
  clear hcirc
  go_enter Try.func6, Try.ntmps6
  go_upto_region 1 with fail
  go_cut [1, 2] (fun t1 t2 wx => t1 = .int .i64 R ∧ t2 = .int .i64 s ∧ Blk wx w.heap.size 29 #[.int .i64 u, .int .i64 v] ∧ Below w.heap.size w wx)
  case first =>
    have hb := Blk.new w 29 #[.int .i64 u0, .int .i64 v0]
    have bel := (Below.refl w.heap.size w).alloc (Nat.le_refl _) (.cells #[.int .i64 u0, .int .i64 v0] 29)
    go_region_with (first
      | (go_at_call_of 10 (Value.int .i64 u0); refine (B1.out _).mono ?_; rintro e w' ⟨rfl, rfl⟩)
      | (go_at_call_of 10 (Value.int .i64 v0); refine (B2.out _).mono ?_; rintro e w' ⟨rfl, rfl⟩)
      | (go_at_call_of 10 (Value.int .i64 a1); refine (B3.out _).mono ?_; rintro e w' ⟨rfl, rfl⟩)
      | (go_at_call_of 10 (Value.int .i64 a2); refine (B4.out _).mono ?_; rintro e w' ⟨rfl, rfl⟩))
    all_goals
      go_wp2_with fail
      go_meet
      exact ⟨rfl, rfl, (Blk.new w 29 _).drew, ((Below.refl _ _).alloc (Nat.le_refl _) _).drew⟩
  case rest =>
    obtain ⟨rfl, rfl, hb, bel⟩ := hcut
    have x0 := hb.cell' 0 rfl
    have x1 := hb.cell' 1 rfl
    go_wp2_with fail
    refine (HC.out _).mono ?_
    rintro e w1 ⟨a, c, rfl, own, bel1⟩
    have it := ItemsAt.own own (fun x hx => (plain_circle u v R s x hx).1)
    have hb1 := hb.below bel1 hb.lt
    have bf1 := bel.trans (bel1.mono bel.size)
    clear own bel1 hb x0 x1 bel
    have hlen := circleL_len u v R s
    have L0 := Lib.hid (fun k (h : k < rgN R s) => circleL_at (cu := u) (cw := v) h)
    have LL := Lib.hid (circleL_last u v R s)
    generalize circleL u v R s = L at *
    have HIT := Lib.hid it
    clear it
    obtain ⟨len, elen⟩ : ∃ n, L.length = n := ⟨_, rfl⟩
    rw [elen] at hlen ⊢
    have hlenA : len ≤ 2 * rgN R s + 1 := by omega
    have hlenB : 2 * rgN R s + 1 ≤ len := by omega
    have HLEN := Lib.hid hlen
    have ELEN := Lib.hid elen
    clear hlen elen
    go_wp2_with fail
    refine (awake_true _).mono ?_
    rintro e wa ⟨rfl, bela⟩
    have ita := HIT.out.below bela
    have hba := hb1.below bela hb1.lt
    have bfa := bf1.trans (bela.mono bf1.size)
    clear bela hb1 bf1 HIT
    have HITA := Lib.hid ita
    clear ita
    have d1 : decide ((len : Int) < 3) = false := by simp; omega
    have d2 : (len : Int).tmod 2 = 1 := by rw [Int.tmod_eq_emod_of_nonneg (by omega)]; omega
    have d3 : ((len : Int) % 2 != 1) = false := by simp; omega
    have d4 : ((len : Int) % 2 == 1) = true := by simp; omega
    obtain ⟨b, o, rfl, hbl, _⟩ := HITA.out 0 _ (L0.out 0 hpos).1
    have hall : ∀ i x, L[i]? = some x → wa.rangeAt b (o + i * 22) x := by
      intro i x hx
      obtain ⟨b', o', e', _, h⟩ := HITA.out i x hx
      cases e'
      exact h
    have HALL := Lib.hid hall
    have hwa := hba.lt
    clear HITA hall d2
    go_wp2_with fail
    go_loopw [9, 10] (fun s9 s10 wr => ∃ k : Nat, k ≤ rgN R s ∧ s9 = .int .i64 (mst R s k) ∧ s10 = .int .i64 (2 * (k : Int)) ∧ Below wa.heap.size wa wr)
      (fun _ s10 _ => 2 * rgN R s - (intOf s10).toNat)
    case atStart => exact ⟨0, by omega, rfl, rfl, Below.refl _ _⟩
    case round =>
      obtain ⟨k, hk, rfl, rfl, bel⟩ := hrel
      have hbr := hba.below bel hba.lt
      have bfr := bfa.trans (bel.mono bfa.size)
      have hszr := bel.size
      by_cases hlt : k < rgN R s
      · obtain ⟨lk1, lk2⟩ := L0.out k hlt
        have ra := HALL.out _ _ lk1
        have rb := HALL.out _ _ lk2
        have hrb := ring_bd (show 1 ≤ R by omega) (show 1 ≤ s by omega) hlt
        have hmr := mst_lt (show 1 ≤ R by omega) (show 1 ≤ s by omega) hlt
        have hms : mst R s (k + 1) = ring R s k := by unfold mst; rw [if_neg (by omega)]; rfl
        have HMS := Lib.hid hms
        generalize ring R s k = r at *
        generalize mst R s k = m0 at *
        obtain ⟨r1, r2⟩ := hrb
        obtain ⟨m1, m2⟩ := hmr
        have l1 : ∀ W', wr.grownBy W' none → (Instr.loadAt 40 (.pointer (some ⟨b, o + 2 * k * 22, none⟩))).run Try.prog W' = .ok (.agg (lineL (u + r) v).toArray) W' := fun W' h =>
          run_loadAt_mid _ b (o + 2 * k * 22) 40 (lineL (u + r) v) _ (fun j x hx => ((below_of_grown0 h).cell (p := ⟨b, o + 2 * k * 22 + j, none⟩) (show b < _ by omega)).trans ((bel.cell (p := ⟨b, o + 2 * k * 22 + j, none⟩) hbl).trans (ra j x hx))) Try.underlying40 rfl (by kernel_rfl)
        have l2 : ∀ W', wr.grownBy W' none → (Instr.loadAt 40 (.pointer (some ⟨b, o + (2 * k + 1) * 22, none⟩))).run Try.prog W' = .ok (.agg (turnL (u + r) v u v).toArray) W' := fun W' h =>
          run_loadAt_mid _ b (o + (2 * k + 1) * 22) 40 (turnL (u + r) v u v) _ (fun j x hx => ((below_of_grown0 h).cell (p := ⟨b, o + (2 * k + 1) * 22 + j, none⟩) (show b < _ by omega)).trans ((bel.cell (p := ⟨b, o + (2 * k + 1) * 22 + j, none⟩) hbl).trans (rb j x hx))) Try.underlying40 rfl (by kernel_rfl)
        have L1 := Lib.hid l1
        have L2 := Lib.hid l2
        clear l1 l2 ra rb lk1 lk2 hms
        have i1 : (0 : Int) ≤ (2 * (k : Int)) := by omega
        have i2 : (2 * (k : Int)) < (len : Int) := by omega
        have i3 : (2 * (k : Int)) + 1 < (len : Int) := by omega
        have i4 : (2 * (k : Int)).toNat = 2 * k := by omega
        have i5 : (2 * (k : Int) + 1).toNat = 2 * k + 1 := by omega
        have i6 : IntKind.i64.wrap (2 * (k : Int) + 1) = 2 * (k : Int) + 1 := by rw [IntKind.wrap_i64]; omega
        have i7 : (0 : Int) ≤ 2 * (k : Int) + 1 := by omega
        go_upto_region 9 with fail
        go_cut [11, 12] (fun s11 s12 wx => ∃ ga gb : Nat, s11 = .pointer (some ⟨ga, 0, none⟩) ∧ s12 = .pointer (some ⟨gb, 0, none⟩) ∧ wr.grownBy wx none ∧ Blk wx ga 40 (lineL (u + r) v).toArray ∧ Blk wx gb 40 (turnL (u + r) v u v).toArray)
        case first =>
          refine wp_region_held_drew (S := fun w' => wr.grownBy w' none) (by kernel_rfl) (grown_drew (grown_refl _ _)) fun hS0 => ?_
          refine take_first 0 (v := .slice (some ⟨b, o, none⟩) len c) rfl (by kernel_rfl) (by kernel_rfl) (by kernel_rfl) (fun _ _ _ h => h) rfl (fun W' hW' => by go_simp) hS0 ?_
          refine take_first 1 (v := .int .i64 (2 * (k : Int))) rfl (by kernel_rfl) (by kernel_rfl) (by kernel_rfl) (fun _ _ _ h => h) rfl (fun W' hW' => by go_simp) hS0 ?_
          refine take_first 2 (v := .pointer (some ⟨b, o + 2 * k * 22, none⟩)) rfl (by kernel_rfl) (by kernel_rfl) (by kernel_rfl) (fun _ _ _ h => h) rfl (fun W' hW' => by go_simp) hS0 ?_
          refine take_first 3 (v := .agg (lineL (u + r) v).toArray) rfl (by kernel_rfl) (by kernel_rfl) (by kernel_rfl) (fun _ _ _ h => h) rfl (fun W' hW' => by exact exec_load 40 (.tmp 58) rfl ⟨b, o + 2 * k * 22, none⟩ _ (by go_simp) (L1.out W' hW')) hS0 ?_
          refine take_first 4 (v := .slice (some ⟨b, o, none⟩) len c) rfl (by kernel_rfl) (by kernel_rfl) (by kernel_rfl) (fun _ _ _ h => h) rfl (fun W' hW' => by go_simp) hS0 ?_
          refine take_first 5 (v := .int .i64 (2 * (k : Int))) rfl (by kernel_rfl) (by kernel_rfl) (by kernel_rfl) (fun _ _ _ h => h) rfl (fun W' hW' => by go_simp) hS0 ?_
          refine take_first 6 (v := .int .i64 (2 * (k : Int) + 1)) rfl (by kernel_rfl) (by kernel_rfl) (by kernel_rfl) (fun _ _ _ h => h) rfl (fun W' hW' => by go_simp) hS0 ?_
          refine take_first 7 (v := .pointer (some ⟨b, o + (2 * k + 1) * 22, none⟩)) rfl (by kernel_rfl) (by kernel_rfl) (by kernel_rfl) (fun _ _ _ h => h) rfl (fun W' hW' => by go_simp) hS0 ?_
          refine take_first 8 (v := .agg (turnL (u + r) v u v).toArray) rfl (by kernel_rfl) (by kernel_rfl) (by kernel_rfl) (fun _ _ _ h => h) rfl (fun W' hW' => by exact exec_load 40 (.tmp 63) rfl ⟨b, o + (2 * k + 1) * 22, none⟩ _ (by go_simp) (L2.out W' hW')) hS0 ?_
          have g1 : wr.grownBy (wr.drew.alloc (.cells #[.int .i64 0, .int .i64 0, .int .i64 0, .int .i64 0, .int .i64 0, .int .i64 0, .int .i64 0, .int .i64 0, .int .i64 0, .int .i64 0, .int .i64 0, .int .i64 0, .int .i64 0, .bool false, .int .i64 0, .bool false, .int .i64 0, .int .i64 0, .int .i64 0, .int .i64 0, .int .i64 0, .bool false] 40)) none := grown_alloc hS0 _
          have g2 : wr.grownBy ((wr.drew.alloc (.cells #[.int .i64 0, .int .i64 0, .int .i64 0, .int .i64 0, .int .i64 0, .int .i64 0, .int .i64 0, .int .i64 0, .int .i64 0, .int .i64 0, .int .i64 0, .int .i64 0, .int .i64 0, .bool false, .int .i64 0, .bool false, .int .i64 0, .int .i64 0, .int .i64 0, .int .i64 0, .int .i64 0, .bool false] 40)).alloc (.cells #[.int .i64 0, .int .i64 0, .int .i64 0, .int .i64 0, .int .i64 0, .int .i64 0, .int .i64 0, .int .i64 0, .int .i64 0, .int .i64 0, .int .i64 0, .int .i64 0, .int .i64 0, .bool false, .int .i64 0, .bool false, .int .i64 0, .int .i64 0, .int .i64 0, .int .i64 0, .int .i64 0, .bool false] 40)) none := grown_alloc g1 _
          have bX : Blk ((wr.drew.alloc (.cells #[.int .i64 0, .int .i64 0, .int .i64 0, .int .i64 0, .int .i64 0, .int .i64 0, .int .i64 0, .int .i64 0, .int .i64 0, .int .i64 0, .int .i64 0, .int .i64 0, .int .i64 0, .bool false, .int .i64 0, .bool false, .int .i64 0, .int .i64 0, .int .i64 0, .int .i64 0, .int .i64 0, .bool false] 40)).alloc (.cells #[.int .i64 0, .int .i64 0, .int .i64 0, .int .i64 0, .int .i64 0, .int .i64 0, .int .i64 0, .int .i64 0, .int .i64 0, .int .i64 0, .int .i64 0, .int .i64 0, .int .i64 0, .bool false, .int .i64 0, .bool false, .int .i64 0, .int .i64 0, .int .i64 0, .int .i64 0, .int .i64 0, .bool false] 40)) wr.heap.size 40 #[.int .i64 0, .int .i64 0, .int .i64 0, .int .i64 0, .int .i64 0, .int .i64 0, .int .i64 0, .int .i64 0, .int .i64 0, .int .i64 0, .int .i64 0, .int .i64 0, .int .i64 0, .bool false, .int .i64 0, .bool false, .int .i64 0, .int .i64 0, .int .i64 0, .int .i64 0, .int .i64 0, .bool false] := (Blk.new wr.drew 40 #[.int .i64 0, .int .i64 0, .int .i64 0, .int .i64 0, .int .i64 0, .int .i64 0, .int .i64 0, .int .i64 0, .int .i64 0, .int .i64 0, .int .i64 0, .int .i64 0, .int .i64 0, .bool false, .int .i64 0, .bool false, .int .i64 0, .int .i64 0, .int .i64 0, .int .i64 0, .int .i64 0, .bool false]).alloc _
          have bY : Blk ((wr.drew.alloc (.cells #[.int .i64 0, .int .i64 0, .int .i64 0, .int .i64 0, .int .i64 0, .int .i64 0, .int .i64 0, .int .i64 0, .int .i64 0, .int .i64 0, .int .i64 0, .int .i64 0, .int .i64 0, .bool false, .int .i64 0, .bool false, .int .i64 0, .int .i64 0, .int .i64 0, .int .i64 0, .int .i64 0, .bool false] 40)).alloc (.cells #[.int .i64 0, .int .i64 0, .int .i64 0, .int .i64 0, .int .i64 0, .int .i64 0, .int .i64 0, .int .i64 0, .int .i64 0, .int .i64 0, .int .i64 0, .int .i64 0, .int .i64 0, .bool false, .int .i64 0, .bool false, .int .i64 0, .int .i64 0, .int .i64 0, .int .i64 0, .int .i64 0, .bool false] 40)) (wr.heap.size + 1) 40 #[.int .i64 0, .int .i64 0, .int .i64 0, .int .i64 0, .int .i64 0, .int .i64 0, .int .i64 0, .int .i64 0, .int .i64 0, .int .i64 0, .int .i64 0, .int .i64 0, .int .i64 0, .bool false, .int .i64 0, .bool false, .int .i64 0, .int .i64 0, .int .i64 0, .int .i64 0, .int .i64 0, .bool false] := by
            have := Blk.new (wr.drew.alloc (.cells #[.int .i64 0, .int .i64 0, .int .i64 0, .int .i64 0, .int .i64 0, .int .i64 0, .int .i64 0, .int .i64 0, .int .i64 0, .int .i64 0, .int .i64 0, .int .i64 0, .int .i64 0, .bool false, .int .i64 0, .bool false, .int .i64 0, .int .i64 0, .int .i64 0, .int .i64 0, .int .i64 0, .bool false] 40)) 40 #[.int .i64 0, .int .i64 0, .int .i64 0, .int .i64 0, .int .i64 0, .int .i64 0, .int .i64 0, .int .i64 0, .int .i64 0, .int .i64 0, .int .i64 0, .int .i64 0, .int .i64 0, .bool false, .int .i64 0, .bool false, .int .i64 0, .int .i64 0, .int .i64 0, .int .i64 0, .int .i64 0, .bool false]
            simpa using this
          refine two_next 9 10 (by kernel_rfl) rfl rfl rfl rfl (fun K1 hK1 => ?_) (fun K1 hK1 => ?_)
          · go_simp
            refine hK1 _ _ g1 ?_
            refine one_next 10 (by kernel_rfl) rfl rfl fun K2 hK2 => ?_
            go_simp
            refine hK2 _ _ g2 ?_
            refine one_next 11 (by kernel_rfl) rfl rfl fun K3 hK3 => ?_
            refine wp_store_row 40 (.tmp 11) (.tmp 59) (by rfl) wr.heap.size (lineL (u + r) v).toArray (by go_simp) (by go_simp) 40 #[.int .i64 0, .int .i64 0, .int .i64 0, .int .i64 0, .int .i64 0, .int .i64 0, .int .i64 0, .int .i64 0, .int .i64 0, .int .i64 0, .int .i64 0, .int .i64 0, .int .i64 0, .bool false, .int .i64 0, .bool false, .int .i64 0, .int .i64 0, .int .i64 0, .int .i64 0, .int .i64 0, .bool false] bX (by kernel_rfl) rfl (line_one _ _) ?_
            refine hK3 _ _ (grown_setRow g2 (.inr (by omega)) _) ?_
            refine one_next 12 (by kernel_rfl) rfl rfl fun K4 hK4 => ?_
            refine wp_store_row 40 (.tmp 12) (.tmp 64) (by rfl) (wr.heap.size + 1) (turnL (u + r) v u v).toArray (by go_simp) (by go_simp) 40 #[.int .i64 0, .int .i64 0, .int .i64 0, .int .i64 0, .int .i64 0, .int .i64 0, .int .i64 0, .int .i64 0, .int .i64 0, .int .i64 0, .int .i64 0, .int .i64 0, .int .i64 0, .bool false, .int .i64 0, .bool false, .int .i64 0, .int .i64 0, .int .i64 0, .int .i64 0, .int .i64 0, .bool false] (bY.rowFar (by omega) _) (by kernel_rfl) rfl (turn_one _ _ _ _) ?_
            refine hK4 _ _ (grown_setRow (grown_setRow g2 (.inr (by omega)) _) (.inr (by omega)) _) ?_
            refine wpAnyH_done (by kernel_rfl) ?_ _
            go_simp
            go_wp2_with fail
            go_meet
            exact ⟨wr.heap.size, (wr.heap.size + 1), rfl, rfl, grown_setRow (grown_setRow g2 (.inr (by omega)) _) (.inr (by omega)) _, (bX.setRow _).rowFar (by omega) _, (bY.rowFar (by omega) _).setRow _⟩
          · go_simp
            refine hK1 _ _ g1 ?_
            refine one_next 9 (by kernel_rfl) rfl rfl fun K2 hK2 => ?_
            go_simp
            refine hK2 _ _ g2 ?_
            refine one_next 11 (by kernel_rfl) rfl rfl fun K3 hK3 => ?_
            refine wp_store_row 40 (.tmp 11) (.tmp 59) (by rfl) (wr.heap.size + 1) (lineL (u + r) v).toArray (by go_simp) (by go_simp) 40 #[.int .i64 0, .int .i64 0, .int .i64 0, .int .i64 0, .int .i64 0, .int .i64 0, .int .i64 0, .int .i64 0, .int .i64 0, .int .i64 0, .int .i64 0, .int .i64 0, .int .i64 0, .bool false, .int .i64 0, .bool false, .int .i64 0, .int .i64 0, .int .i64 0, .int .i64 0, .int .i64 0, .bool false] bY (by kernel_rfl) rfl (line_one _ _) ?_
            refine hK3 _ _ (grown_setRow g2 (.inr (by omega)) _) ?_
            refine one_next 12 (by kernel_rfl) rfl rfl fun K4 hK4 => ?_
            refine wp_store_row 40 (.tmp 12) (.tmp 64) (by rfl) wr.heap.size (turnL (u + r) v u v).toArray (by go_simp) (by go_simp) 40 #[.int .i64 0, .int .i64 0, .int .i64 0, .int .i64 0, .int .i64 0, .int .i64 0, .int .i64 0, .int .i64 0, .int .i64 0, .int .i64 0, .int .i64 0, .int .i64 0, .int .i64 0, .bool false, .int .i64 0, .bool false, .int .i64 0, .int .i64 0, .int .i64 0, .int .i64 0, .int .i64 0, .bool false] (bX.rowFar (by omega) _) (by kernel_rfl) rfl (turn_one _ _ _ _) ?_
            refine hK4 _ _ (grown_setRow (grown_setRow g2 (.inr (by omega)) _) (.inr (by omega)) _) ?_
            refine wpAnyH_done (by kernel_rfl) ?_ _
            go_simp
            go_wp2_with fail
            go_meet
            exact ⟨(wr.heap.size + 1), wr.heap.size, rfl, rfl, grown_setRow (grown_setRow g2 (.inr (by omega)) _) (.inr (by omega)) _, (bY.setRow _).rowFar (by omega) _, (bX.rowFar (by omega) _).setRow _⟩
        case rest =>
          obtain ⟨ga, gb, rfl, rfl, gx, bA, bB⟩ := hcut
          have hbx := hbr.grown gx (by simp)
          have y0 := hbx.cell' 0 rfl
          have y1 := hbx.cell' 1 rfl
          have p0 := bA.cell' (v := .int .i64 2) 0 rfl
          have p5 := bA.cell' (v := .int .i64 (u + r)) 5 rfl
          have p6 := bA.cell' (v := .int .i64 v) 6 rfl
          have p7 := bA.cell' (v := .int .i64 0) 7 rfl
          have q0 := bB.cell' (v := .int .i64 3) 0 rfl
          have q5 := bB.cell' (v := .int .i64 (u + r)) 5 rfl
          have q6 := bB.cell' (v := .int .i64 v) 6 rfl
          have q7 := bB.cell' (v := .int .i64 0) 7 rfl
          have q9 := bB.cell' (v := .int .i64 u) 9 rfl
          have q10 := bB.cell' (v := .int .i64 v) 10 rfl
          have q11 := bB.cell' (v := .int .i64 0) 11 rfl
          have q12 := bB.cell' (v := .int .i64 1) 12 rfl
          have q13 := bB.cell' (v := .bool true) 13 rfl
          have hrr : u + r - u = r := by omega
          have belx := bel.trans ((below_of_grown0 gx).mono hszr)
          have f1 : decide (r ≤ m0) = false := by simp; omega
          have f2 : decide (R < r) = false := by simp; omega
          have f3 : IntKind.i64.wrap (2 * (k : Int) + 2) = 2 * (k : Int) + 2 := by rw [IntKind.wrap_i64]; omega
          clear bA bB hbx hbr bel gx bfr
          go_wp2_with fail
          go_roundw
          case rel => exact ⟨k + 1, hlt, by rw [HMS.out], by go_num, belx⟩
          case measure => simp [intOf]; omega
      · obtain rfl : k = rgN R s := by omega
        have rl := HALL.out _ _ LL.out
        have hml := mst_last (R := R) (s := s) hpos
        rw [hml]
        have x0 := hbr.cell' 0 rfl
        have x1 := hbr.cell' 1 rfl
        have j1 : (0 : Int) ≤ (len : Int) - 1 := by omega
        have j2 : (len : Int) - 1 < (len : Int) := by omega
        have j3 : ((len : Int) - 1).toNat = 2 * rgN R s := by omega
        have j4 : IntKind.i64.wrap ((len : Int) - 1) = (len : Int) - 1 := by rw [IntKind.wrap_i64]; omega
        have j5 : decide (2 * (rgN R s : Int) + 1 < (len : Int)) = false := by simp; omega
        let S : World → Prop := fun w' => ∃ n, w' = wr.drewN n
        have hl1 : ∀ p : At S, (Instr.loadAt 40 (.pointer (some ⟨b, o + 2 * rgN R s * 22, none⟩))).run Try.prog p.w = .ok (.agg (lineL u v).toArray) p.w := fun p => by
          obtain ⟨pw, n, rfl⟩ := p
          exact run_loadAt_mid _ b (o + 2 * rgN R s * 22) 40 (lineL u v) _ (fun j x hx => (bel.cell (p := ⟨b, o + 2 * rgN R s * 22 + j, none⟩) hbl).trans (rl j x hx)) Try.underlying40 rfl (by kernel_rfl)
        have e0 : ∀ p : At S, p.w.cell? ⟨w.heap.size, 0, none⟩ = some (.int .i64 u) := fun p => by obtain ⟨pw, n, rfl⟩ := p; exact x0
        have e1 : ∀ p : At S, p.w.cell? ⟨w.heap.size, 1, none⟩ = some (.int .i64 v) := fun p => by obtain ⟨pw, n, rfl⟩ := p; exact x1
        have hB : ∀ p : At S, Below w.heap.size w p.w := fun p => by obtain ⟨pw, n, rfl⟩ := p; exact below_drewN bfr n
        have hs : S wr.drew := ⟨1, rfl⟩
        have inst : Nonempty (At S) := ⟨⟨_, hs⟩⟩
        have HL1 := Lib.hid hl1
        clear hl1 rl hml x0 x1
        clear_value S
        go_wp2_with fail
        refine wp_region_at S (by kernel_rfl) (by kernel_rfl) hs ?_
        repeat (first
          | (go_big_quiet_want; (first
              | refine quiet_load 40 (.tmp 133) rfl _ _ rfl HL1.out ?_
              | refine quiet_built 40 _ rfl (lineL u v).toArray (by kernel_rfl) ?_
              | refine quiet_eql 40 40 (.tmp 134) (.tmp 140) rfl (lineL u v).toArray (lineL u v).toArray true rfl rfl (by kernel_rfl) (fun p => eql_line u v p.w) ?_); simp only [Act.put, List.setIfInBounds_toArray, List.set_cons_zero, List.set_cons_succ]; go_big_quiet_on)
          | go_big_quiet_step (fail))
        refine wpQuiet_nil ?_
        rintro _ ⟨p, rfl⟩
        go_wp2_with fail
        go_ret
        exact ⟨rfl, hB p⟩
end Go.Proofs.Ytnbfhdapdlpgiaa

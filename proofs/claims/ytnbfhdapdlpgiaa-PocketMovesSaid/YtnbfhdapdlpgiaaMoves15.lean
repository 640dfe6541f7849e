/-
  PocketMoves returns true. Its arguments: any.
-/
import Derived.Test.YtnbfhdapdlpgiaaWalls15
import Derived.Test.YtnbfhdapdlpgiaaRound15
import Derived.Deep.RegionHeld3
namespace Go.Proofs.Ytnbfhdapdlpgiaa
open Go Go.RowKit
set_option linter.unusedVariables false

/-! ### The plain law -/
/-- y is x, moved. -/
def Pair (du dv : Int) (x y : List Value) : Prop :=
  (∃ X Y, x = lineL X Y ∧ y = lineL (X + du) (Y + dv) ∧ (-200000 ≤ X ∧ X ≤ 200000) ∧ (-200000 ≤ Y ∧ Y ≤ 200000)) ∨
  (∃ X Y C D, x = turnL X Y C D ∧ y = turnL (X + du) (Y + dv) (C + du) (D + dv) ∧ (-200000 ≤ X ∧ X ≤ 200000) ∧ (-200000 ≤ Y ∧ Y ≤ 200000) ∧ (-200000 ≤ C ∧ C ≤ 200000) ∧ (-200000 ≤ D ∧ D ≤ 200000))
def Pairs (du dv : Int) (L M : List (List Value)) : Prop := L.length = M.length ∧ ∀ (i : Nat) (x : List Value), L[i]? = some x → ∃ y, M[i]? = some y ∧ Pair du dv x y
theorem pairs_rect {u v du dv wd dp s : Int} (hu : -90000 ≤ u ∧ u ≤ 90000) (hv : -90000 ≤ v ∧ v ≤ 90000) (h1 : 8 ≤ wd ∧ wd ≤ 900) (h2 : 0 ≤ dp ∧ dp ≤ 900) (hs : 1 ≤ s) : Pairs du dv (rectL u v wd dp s) (rectL (u + du) (v + dv) wd dp s) := by
  have hz : 1 ≤ mxx wd dp ∧ wd ≤ mxx wd dp ∧ dp ≤ mxx wd dp := by unfold mxx; split <;> omega
  refine ⟨by rw [rectL_len, rectL_len], fun i x hx => ?_⟩
  have hlen := (List.getElem?_eq_some_iff.1 hx).1
  rw [rectL_len] at hlen
  by_cases h : i < 5 * rgN (mxx wd dp) s
  · rw [rectL_at h] at hx
    cases hx
    have hA := (dist_of (wd := wd) (size := mxx wd dp) (step := s) (by omega) (by omega) (by omega) hs).1 (i / 5) (by omega)
    have hB := (dist_of (wd := dp) (size := mxx wd dp) (step := s) (by omega) (by omega) (by omega) hs).1 (i / 5) (by omega)
    dsimp only at hA hB
    have hp := pu_abs (hlf wd (mxx wd dp) (ring (mxx wd dp) s (i / 5))) (i % 5)
    have hq := pw_abs (hlf dp (mxx wd dp) (ring (mxx wd dp) s (i / 5))) (i % 5)
    refine ⟨_, rectL_at h, .inl ⟨_, _, rfl, ?_, ?_, ?_⟩⟩
    · generalize pu _ _ = p
      generalize pw _ _ = q
      rw [show u + du + p = u + p + du by omega, show v + dv + q = v + q + dv by omega]
    · rcases hp with e | e <;> rw [e] <;> omega
    · rcases hq with e | e <;> rw [e] <;> omega
  · obtain rfl : i = 5 * rgN (mxx wd dp) s := by omega
    rw [rectL_last] at hx
    cases hx
    exact ⟨_, rectL_last _ _ _ _ _, .inl ⟨_, _, rfl, rfl, by omega, by omega⟩⟩
theorem pairs_circ {u v du dv R s : Int} (hu : -90000 ≤ u ∧ u ≤ 90000) (hv : -90000 ≤ v ∧ v ≤ 90000) (h1 : 8 ≤ R ∧ R ≤ 900) (hs : 1 ≤ s) : Pairs du dv (circleL u v R s) (circleL (u + du) (v + dv) R s) := by
  refine ⟨by rw [circleL_len, circleL_len], fun i x hx => ?_⟩
  have hlen := (List.getElem?_eq_some_iff.1 hx).1
  rw [circleL_len] at hlen
  by_cases h : i < 2 * rgN R s
  · have hk : i / 2 < rgN R s := by omega
    have hb := ring_bd (show 1 ≤ R by omega) hs hk
    have ha := circleL_at (cu := u) (cw := v) hk
    have hc := circleL_at (cu := u + du) (cw := v + dv) hk
    generalize ring R s (i / 2) = r at *
    rcases Nat.lt_or_ge 0 (i % 2) with hp | hp
    · have e : 2 * (i / 2) + 1 = i := by omega
      rw [e] at ha hc
      rw [ha.2] at hx
      cases hx
      refine ⟨_, hc.2, .inr ⟨_, _, _, _, rfl, ?_, by omega, by omega, by omega, by omega⟩⟩
      rw [show u + du + r = u + r + du by omega]
    · have e : 2 * (i / 2) = i := by omega
      rw [e] at ha hc
      rw [ha.1] at hx
      cases hx
      refine ⟨_, hc.1, .inl ⟨_, _, rfl, ?_, by omega, by omega⟩⟩
      rw [show u + du + r = u + r + du by omega]
  · obtain rfl : i = 2 * rgN R s := by omega
    rw [circleL_last] at hx
    cases hx
    exact ⟨_, circleL_last _ _ _ _, .inl ⟨_, _, rfl, rfl, by omega, by omega⟩⟩
theorem pair_plain {du dv : Int} {x y : List Value} (h : Pair du dv x y) : Plain y := by
  rcases h with ⟨_, _, _, rfl, _⟩ | ⟨_, _, _, _, _, rfl, _⟩
  · exact plain_line _ _
  · exact plain_turn _ _ _ _

section
variable {P : Program} {ops : Array Oper} {rest : List Oper} {a : Act} {w : World} {Q : Exit → Act → World → Prop} {dst : Option Tmp} {ty0 : TypeId} {pos : String} {after : Array Edge}
theorem go_load_mid (ty : TypeId) (x : Operand) (g o : Nat) (cs : List Value) (d : TypeDesc) (hx : a.eval x = .pointer (some ⟨g, o, none⟩)) (hc : w.rangeAt g o cs)
    (hu : P.underlying ty = some d) (hd : d.isRow = true) (hi : (P.info? ty).map (·.size) = some cs.length) (h : wpList P ops Q rest (a.put dst (.agg cs.toArray)) w) : wpList P ops Q (⟨dst, .load ty x, ty0, pos, after, none⟩ :: rest) a w :=
  wpList_plain rfl fun _ hK => wo_load_mid ty x g o cs d hx hc hu hd hi (hK _ _ h)
end
theorem quiet_neq {P : Program} {S : World → Prop} {o : Oper} {a : Act} {K : Act → Prop} (t t' : TypeId) (x y : Operand) (h : o.op = .binOp .neq t x y t') (xs ys : Array Value) (b : Bool) (hx : a.eval x = .agg xs) (hy : a.eval y = .agg ys)
    (hm : P.eqGuardType P.depth t = false) (hr : ∀ q : At S, (binOp .neq t (.agg xs) (.agg ys)).run P q.w = .ok (.bool b) q.w) (hk : K (a.put o.dst (.bool b))) : o.quiet P a (fun w' => ∃ q : At S, w' = q.w) K :=
  ⟨.bool b, fun w ⟨q, hq⟩ => by
    subst hq
    unfold Oper.quietAt execOp
    simp only [h, hx, hy, Sem.run_bind, run_eqGuard_agg _ _ _ _ _ _ _ hm, Result.andThen_ok, hr q, Sem.run_pure]
    exact ⟨rfl, rfl⟩, hk⟩
/-- The two cells of d behind a store elsewhere. -/
theorem shiftS {W : World} {B g : Nat} {x y : Value} (hne : B ≠ g) (o : Nat) (u : Value) (h : W.cell? ⟨B, 0, none⟩ = some x ∧ W.cell? ⟨B, 1, none⟩ = some y) : (W.setCell ⟨g, o, none⟩ u).cell? ⟨B, 0, none⟩ = some x ∧ (W.setCell ⟨g, o, none⟩ u).cell? ⟨B, 1, none⟩ = some y :=
  ⟨setFar h.1 hne, setFar h.2 hne⟩
theorem wd_walk_facts {wd dp : Int} (h1 : 8 ≤ wd ∧ wd ≤ 900) (h2 : 0 ≤ dp ∧ dp ≤ 900) : 1 ≤ mxx wd dp ∧ mxx wd dp ≤ 900 := by unfold mxx; split <;> omega

set_option maxRecDepth 100000 in
set_option maxHeartbeats 4000000 in
theorem moves_walk (cc cd : List Value) (a1 a2 a3 : Int) (rd : Bool) (w : World) (hc : Leaves w ptKs cc) (hd : Leaves w ptKs cd) : Calls Try.prog 9 #[.agg cc.toArray, .agg cd.toArray, .int .i64 a1, .int .i64 a2, .int .i64 a3, .bool rd] w fun e w' => e = .returned (.bool true) ∧ Below w.heap.size w w' := by
  obtain ⟨u0, v0, e⟩ := pt_cells hc
  rw [e]
  clear e hc
  obtain ⟨s0, t0, e⟩ := pt_cells hd
  rw [e]
  clear e hd
  have b1 := fun W => between_any u0 (-90000) 90000 W (by omega) (by omega) (by omega) (by omega)
  have b2 := fun W => between_any v0 (-90000) 90000 W (by omega) (by omega) (by omega) (by omega)
  have b3 := fun W => between_any s0 (-90000) 90000 W (by omega) (by omega) (by omega) (by omega)
  have b4 := fun W => between_any t0 (-90000) 90000 W (by omega) (by omega) (by omega) (by omega)
  have b5 := fun W => between_any a1 8 900 W (by omega) (by omega) (by omega) (by omega)
  have b6 := fun W => between_any a2 0 900 W (by omega) (by omega) (by omega) (by omega)
  have b7 := fun W => between_any a3 8 300 W (by omega) (by omega) (by omega) (by omega)
  have hu := between_bd u0 (-90000) 90000 (by omega)
  have hv := between_bd v0 (-90000) 90000 (by omega)
  have hdu := between_bd s0 (-90000) 90000 (by omega)
  have hdv := between_bd t0 (-90000) 90000 (by omega)
  have hr := between_bd a1 8 900 (by omega)
  have hd := between_bd a2 0 900 (by omega)
  have hs := between_bd a3 8 300 (by omega)
  generalize -90000 + u0 % (90000 - -90000 + 1) = u at *
  generalize -90000 + v0 % (90000 - -90000 + 1) = v at *
  generalize -90000 + s0 % (90000 - -90000 + 1) = du at *
  generalize -90000 + t0 % (90000 - -90000 + 1) = dv at *
  generalize 8 + a1 % (900 - 8 + 1) = wd at *
  generalize 0 + a2 % (900 - 0 + 1) = dp at *
  generalize 8 + a3 % (300 - 8 + 1) = s at *
  have hz := wd_walk_facts hr hd
  have hN : rgN (mxx wd dp) s ≤ 375 := rgN_le (by omega) (by omega) (by omega)
  have hN' : rgN wd s ≤ 375 := rgN_le (by omega) (by omega) (by omega)
  have PR := Lib.hid (pairs_rect (du := du) (dv := dv) hu hv hr hd (show 1 ≤ s by omega))
  have PC := Lib.hid (pairs_circ (du := du) (dv := dv) hu hv hr (show 1 ≤ s by omega))
  obtain ⟨hu1, hu2⟩ := hu
  obtain ⟨hv1, hv2⟩ := hv
  obtain ⟨hdu1, hdu2⟩ := hdu
  obtain ⟨hdv1, hdv2⟩ := hdv
  obtain ⟨hr1, hr2⟩ := hr
  obtain ⟨hd1, hd2⟩ := hd
  obtain ⟨hs1, hs2⟩ := hs
  have r1 := fun W => rect_any u v wd dp s W
  have r2 := fun W => rect_any (u + du) (v + dv) wd dp s W
  have r3 := fun W => circle_any u v wd s W
  have r4 := fun W => circle_any (u + du) (v + dv) wd s W
  rw [rectR_ok ⟨by omega, by omega, by omega, by omega, by omega, by omega, ⟨by omega, by omega⟩, by omega, by omega⟩ (by omega)] at r1 r2
  rw [circleR_ok ⟨by omega, by omega, by omega, by omega, by omega⟩ (by omega)] at r3 r4
  dsimp only at r1 r2 r3 r4
  have g1 := plain_rect u v wd dp s
  have g2 := plain_rect (u + du) (v + dv) wd dp s
  have g3 := plain_circle u v wd s
  have g4 := plain_circle (u + du) (v + dv) wd s
  have n1 : (rectL u v wd dp s).length ≤ 5001 := by rw [rectL_len]; omega
  have n3 : (circleL u v wd s).length ≤ 5001 := by rw [circleL_len]; omega
  generalize rectL u v wd dp s = L1 at *
  generalize rectL (u + du) (v + dv) wd dp s = L2 at *
  generalize circleL u v wd s = L3 at *
  generalize circleL (u + du) (v + dv) wd s = L4 at *
  have R1 := Lib.hid r1
  have R2 := Lib.hid r2
  have R3 := Lib.hid r3
  have R4 := Lib.hid r4
  have G1 := Lib.hid g1
  have G2 := Lib.hid g2
  have G3 := Lib.hid g3
  have G4 := Lib.hid g4
  have B1 := Lib.hid b1
  have B2 := Lib.hid b2
  have B3 := Lib.hid b3
  have B4 := Lib.hid b4
  have B5 := Lib.hid b5
  have B6 := Lib.hid b6
  have B7 := Lib.hid b7
  clear b1 b2 b3 b4 b5 b6 b7 r1 r2 r3 r4 g1 g2 g3 g4 hz hN hN'
  go_enter Try.func9, Try.ntmps9
  go_upto_region 1 with fail
  go_cut [] (fun wx => Blk wx w.heap.size 29 #[.int .i64 u, .int .i64 v] ∧ Blk wx (w.heap.size + 1) 29 #[.int .i64 s0, .int .i64 t0] ∧ Below w.heap.size w wx)
  case first =>
    go_region_with (first
      | (go_at_call_of 10 (Value.int .i64 u0); refine (B1.out _).mono ?_; rintro e w' ⟨rfl, rfl⟩)
      | (go_at_call_of 10 (Value.int .i64 v0); refine (B2.out _).mono ?_; rintro e w' ⟨rfl, rfl⟩))
    all_goals
      go_wp2_with fail
      go_meet
      have k1 := (Blk.new w 29 #[.int .i64 u, .int .i64 v]).alloc (.cells #[.int .i64 s0, .int .i64 t0] 29)
      have k2 := Blk.new (w.alloc (.cells #[.int .i64 u, .int .i64 v] 29)) 29 #[.int .i64 s0, .int .i64 t0]
      rw [World.size_alloc] at k2
      exact ⟨k1.drew, k2.drew, (((Below.refl _ _).alloc (Nat.le_refl _) _).alloc (by simp) _).drew⟩
  case rest =>
    obtain ⟨hb, hd, bel⟩ := hcut
    have x0 := hd.cell' 0 rfl
    have x1 := hd.cell' 1 rfl
    have y0 := hd.frozen 0
    have y1 := hd.frozen 1
    go_upto_region 2 with fail
    go_cut [] (fun wx => Blk wx w.heap.size 29 #[.int .i64 u, .int .i64 v] ∧ Blk wx (w.heap.size + 1) 29 #[.int .i64 du, .int .i64 dv] ∧ Below w.heap.size w wx)
    case first =>
      go_region_with (first
        | (go_at_call_of 10 (Value.int .i64 s0); refine (B3.out _).mono ?_; rintro e w' ⟨rfl, rfl⟩)
        | (go_at_call_of 10 (Value.int .i64 t0); refine (B4.out _).mono ?_; rintro e w' ⟨rfl, rfl⟩))
      all_goals
        go_wp2_with fail
        go_meet
        exact ⟨(hb.far (p := ⟨w.heap.size + 1, 0, none⟩) (by simp) _).far (p := ⟨w.heap.size + 1, 1, none⟩) (by simp) _, ((hd.put 0 (.int .i64 du)).put 1 (.int .i64 dv)).drew, ((bel.setCell (p := ⟨w.heap.size + 1, 0, none⟩) (by simp) _).setCell (p := ⟨w.heap.size + 1, 1, none⟩) (by simp) _).drew⟩
    case rest =>
      clear x0 x1 y0 y1 hb hd bel
      obtain ⟨hb, hd, bel⟩ := hcut
      have x0 := hb.cell' 0 rfl
      have x1 := hb.cell' 1 rfl
      have x2 := hd.cell' 0 rfl
      have x3 := hd.cell' 1 rfl
      have hsz := bel.size
      have hdl := hd.lt
      go_upto_region 5 with (first
        | (go_at_call_of 10 (Value.int .i64 a1); refine (B5.out _).mono ?_; rintro e w' ⟨rfl, rfl⟩)
        | (go_at_call_of 10 (Value.int .i64 a2); refine (B6.out _).mono ?_; rintro e w' ⟨rfl, rfl⟩)
        | (go_at_call_of 10 (Value.int .i64 a3); refine (B7.out _).mono ?_; rintro e w' ⟨rfl, rfl⟩))
      have kb := hb.alloc (.cells #[.int .i64 (u + du), .int .i64 (v + dv)] 29)
      have kd := hd.alloc (.cells #[.int .i64 (u + du), .int .i64 (v + dv)] 29)
      have kq := Blk.new wc 29 #[.int .i64 (u + du), .int .i64 (v + dv)]
      have kbel := bel.alloc (by omega) (.cells #[.int .i64 (u + du), .int .i64 (v + dv)] 29)
      clear x0 x1 x2 x3 hb hd bel
      generalize wc.alloc (.cells #[.int .i64 (u + du), .int .i64 (v + dv)] 29) = w3 at *
      generalize wc.heap.size = qB at *
      have x0 := kb.cell' 0 rfl
      have x1 := kb.cell' 1 rfl
      have hql := kq.lt
      have hbl := kb.lt
      have hdl := kd.lt
      go_upto_if 67 with fail
      refine (R1.out _).mono ?_
      rintro e w4 ⟨a1', c1, rfl, own1, bel1⟩
      have it1 := ItemsAt.own own1 (fun x hx => (G1.out x hx).1)
      have kb4 := kb.below bel1 hbl
      have kd4 := kd.below bel1 hdl
      have kq4 := kq.below bel1 hql
      have bf4 := kbel.trans (bel1.mono kbel.size)
      have x0 := kq4.cell' 0 rfl
      have x1 := kq4.cell' 1 rfl
      have IT1 := Lib.hid it1
      clear own1 bel1 it1 kb kd kq kbel hql hbl hdl hsz
      have hql := kq4.lt
      have hbl := kb4.lt
      have hdl := kd4.lt
      go_upto_if 67 with fail
      refine (R2.out _).mono ?_
      rintro e w5 ⟨a2', c2, rfl, own2, bel2⟩
      have it2 := ItemsAt.own own2 (fun x hx => (G2.out x hx).1)
      have it1 := IT1.out.below bel2
      have kb5 := kb4.below bel2 hbl
      have kd5 := kd4.below bel2 hdl
      have kq5 := kq4.below bel2 hql
      have bf5 := bf4.trans (bel2.mono bf4.size)
      have x0 := kb5.cell' 0 rfl
      have x1 := kb5.cell' 1 rfl
      clear own2 bel2 kb4 kd4 kq4 bf4 hql hbl hdl IT1
      have hql := kq5.lt
      have hbl := kb5.lt
      have hdl := kd5.lt
      have IT1 := Lib.hid it1
      have IT2 := Lib.hid it2
      clear it1 it2
      go_upto_if 67 with fail
      go_cut [14, 15, 16, 17] (fun s14 s15 s16 s17 wx => ∃ (L M : List (List Value)) (p1 p2 : Option Addr) (e1 e2 : Nat), s14 = .slice p1 L.length e1 ∧ s15 = .int .i64 0 ∧ s16 = .slice p2 M.length e2 ∧ s17 = .int .i64 0 ∧ Pairs du dv L M ∧ L.length ≤ 5001 ∧ ItemsAt wx p1 L ∧ ItemsAt wx p2 M ∧ Blk wx (w.heap.size + 1) 29 #[.int .i64 du, .int .i64 dv] ∧ Below w.heap.size w wx)
      case first =>
        cases rd
        · go_wp2_with fail
          go_meet
          exact ⟨L1, L2, _, _, _, _, rfl, rfl, rfl, rfl, PR.out, n1, IT1.out, IT2.out, kd5, bf5⟩
        · go_wp2_with fail
          refine (R3.out _).mono ?_
          rintro e w6 ⟨a3', c3, rfl, own3, bel3⟩
          have it3 := ItemsAt.own own3 (fun x hx => (G3.out x hx).1)
          have kd6 := kd5.below bel3 hdl
          have kq6 := kq5.below bel3 hql
          have bf6 := bf5.trans (bel3.mono bf5.size)
          have x0 := kq6.cell' 0 rfl
          have x1 := kq6.cell' 1 rfl
          have IT3 := Lib.hid it3
          clear own3 bel3 it3 kb5 kd5 kq5 bf5 hbl hdl hql
          have hdl := kd6.lt
          go_wp2_with fail
          refine (R4.out _).mono ?_
          rintro e w7 ⟨a4', c4, rfl, own4, bel4⟩
          have it4 := ItemsAt.own own4 (fun x hx => (G4.out x hx).1)
          have it3 := IT3.out.below bel4
          have kd7 := kd6.below bel4 hdl
          have bf7 := bf6.trans (bel4.mono bf6.size)
          have IT3' := Lib.hid it3
          have IT4 := Lib.hid it4
          clear own4 bel4 it3 it4 kd6 kq6 bf6 IT3 x0 x1
          go_wp2_with fail
          go_meet
          exact ⟨L3, L4, _, _, _, _, rfl, rfl, rfl, rfl, PC.out, n3, IT3'.out, IT4.out, kd7, bf7⟩
      case rest =>
        clear kb5 kd5 kq5 bf5 hql hbl hdl IT1 IT2 x0 x1 PR PC
        obtain ⟨L, M, p1, p2, e1, e2, rfl, rfl, rfl, rfl, hP, hL, it1, it2, kd, bel⟩ := hcut
        obtain ⟨hPl, hPp⟩ := hP
        obtain ⟨len, elen⟩ : ∃ n, L.length = n := ⟨_, rfl⟩
        have elen2 : M.length = len := by rw [← hPl, elen]
        rw [elen, elen2]
        rw [elen] at hL
        have HPP := Lib.hid hPp
        have IT1 := Lib.hid it1
        have IT2 := Lib.hid it2
        clear hPl hPp it1 it2
        have ELEN := Lib.hid elen
        clear elen elen2
        go_wp2_with fail
        refine (awake_true _).mono ?_
        rintro e wa ⟨rfl, bela⟩
        have it1 := IT1.out.below bela
        have it2 := IT2.out.below bela
        have ka := kd.below bela kd.lt
        have bfa := bel.trans (bela.mono bel.size)
        have kal := ka.lt
        clear bela kd bel IT1 IT2
        have IT1 := Lib.hid it1
        have IT2 := Lib.hid it2
        clear it1 it2
        go_wp2_with fail
        go_loopw [18] (fun s18 wr => ∃ i : Nat, i ≤ len ∧ s18 = .int .i64 i ∧ Below wa.heap.size wa wr)
          (fun s18 _ => len - (intOf s18).toNat)
        case atStart => exact ⟨0, by omega, rfl, Below.refl _ _⟩
        case round =>
          obtain ⟨i, hi, rfl, belr⟩ := hrel
          have kr := ka.below belr kal
          have bfr := bfa.trans (belr.mono bfa.size)
          have hszr := belr.size
          by_cases hlt : i < len
          · obtain ⟨x, hx⟩ : ∃ x, L[i]? = some x := ⟨_, List.getElem?_eq_getElem (by rw [ELEN.out]; exact hlt)⟩
            obtain ⟨y, hy, hpair⟩ := HPP.out i x hx
            obtain ⟨b1, o1, rfl, hb1, h1⟩ := IT1.out i x hx
            obtain ⟨b2, o2, rfl, hb2, h2⟩ := IT2.out i y hy
            have m1 : wr.rangeAt b1 (o1 + i * 22) x := fun j v hv => (belr.cell (p := ⟨b1, o1 + i * 22 + j, none⟩) hb1).trans (h1 j v hv)
            have i1 : (0 : Int) ≤ (i : Int) := by omega
            have i2 : (i : Int) < (len : Int) := by omega
            have i3 : IntKind.i64.wrap ((i : Int) + 1) = (i : Int) + 1 := by rw [IntKind.wrap_i64]; omega
            have hpl := pair_plain hpair
            have hne : wr.heap.size ≠ w.heap.size + 1 := by have := kr.lt; omega
            have hne' : w.heap.size + 1 ≠ wr.heap.size := by omega
            clear hx hy h1 IT1 IT2
            rcases hpair with ⟨X, Y, rfl, rfl, ⟨X1, X2⟩, Y1, Y2⟩ | ⟨X, Y, C, D, rfl, rfl, ⟨X1, X2⟩, ⟨Y1, Y2⟩, ⟨C1, C2⟩, D1, D2⟩
            · skip
              go_upto_region 16 with (first
                | ((with_reducible refine go_load_mid 40 (.tmp 107) b1 (o1 + i * 22) (lineL X Y) _ (by with_unfolding_all rfl) (by with_unfolding_all exact m1) Try.underlying40 (by with_unfolding_all rfl) (by with_unfolding_all kernel_rfl) ?_))
                | ((with_reducible refine go_store_row 40 (.tmp 19) (.tmp 108) wr.heap.size (lineL X Y).toArray 40 #[.int .i64 0, .int .i64 0, .int .i64 0, .int .i64 0, .int .i64 0, .int .i64 0, .int .i64 0, .int .i64 0, .int .i64 0, .int .i64 0, .int .i64 0, .int .i64 0, .int .i64 0, .bool false, .int .i64 0, .bool false, .int .i64 0, .int .i64 0, .int .i64 0, .int .i64 0, .int .i64 0, .bool false] (by with_unfolding_all rfl) (by with_unfolding_all rfl) (by with_unfolding_all exact Blk.new wr _ _) (by with_unfolding_all kernel_rfl) (by with_unfolding_all rfl) (line_one _ _) ?_); refine on_told (fun w' => wr.grownBy w' none ∧ Blk w' wr.heap.size 40 (lineL X Y).toArray) (item_made (grown_refl wr none) _) ?_; rintro W1 ⟨g1, bk1⟩; have d0 := (kr.grown g1 (by simp)).cell' 0 rfl; have d1 := (kr.grown g1 (by simp)).cell' 1 rfl))
              simp only [Act.put]
              go_cut [] (fun wx => wr.grownBy wx none ∧ Blk wx wr.heap.size 40 (lineL (X + du) (Y + dv)).toArray)
              case first =>
                refine wp_region_held_drew (S := fun w' => w'.cell? ⟨w.heap.size + 1, 0, none⟩ = some (.int .i64 du) ∧ w'.cell? ⟨w.heap.size + 1, 1, none⟩ = some (.int .i64 dv)) (by kernel_rfl) ⟨d0, d1⟩ fun hS0 => ?_
                clear d0 d1
                have e5 := bk1.cell' (v := .int .i64 X) 5 rfl
                have e6 := bk1.cell' (v := .int .i64 Y) 6 rfl
                have f5 := bk1.frozen 5
                have f6 := bk1.frozen 6
                have q5 : IntKind.i64.wrap (X + du) = X + du := by rw [IntKind.wrap_i64]; omega
                have q6 : IntKind.i64.wrap (Y + dv) = Y + dv := by rw [IntKind.wrap_i64]; omega
                refine take_first 0 (v := .pointer (some ⟨wr.heap.size, 5, none⟩)) rfl (by kernel_rfl) (by kernel_rfl) (by kernel_rfl) (fun _ _ _ h => h) rfl (fun W' hW' => by go_simp) hS0 ?_
                refine take_first 1 (v := .pointer (some ⟨wr.heap.size, 5, none⟩)) rfl (by kernel_rfl) (by kernel_rfl) (by kernel_rfl) (fun _ _ _ h => h) rfl (fun W' hW' => by go_simp) hS0 ?_
                refine take_first 3 (v := .pointer (some ⟨w.heap.size + 1, 0, none⟩)) rfl (by kernel_rfl) (by kernel_rfl) (by kernel_rfl) (fun _ _ _ h => h) rfl (fun W' hW' => by go_simp) hS0 ?_
                refine take_first 4 (v := .int .i64 du) rfl (by kernel_rfl) (by kernel_rfl) (by kernel_rfl) (fun _ _ _ h => h) rfl (fun W' hW' => by have e0 := hW'.1; go_simp) hS0 ?_
                refine take_first 6 (v := .pointer (some ⟨wr.heap.size, 5, none⟩)) rfl (by kernel_rfl) (by kernel_rfl) (by kernel_rfl) (fun _ _ _ h => h) rfl (fun W' hW' => by go_simp) hS0 ?_
                refine take_first 7 (v := .pointer (some ⟨wr.heap.size, 6, none⟩)) rfl (by kernel_rfl) (by kernel_rfl) (by kernel_rfl) (fun _ _ _ h => h) rfl (fun W' hW' => by go_simp) hS0 ?_
                refine take_first 9 (v := .pointer (some ⟨w.heap.size + 1, 1, none⟩)) rfl (by kernel_rfl) (by kernel_rfl) (by kernel_rfl) (fun _ _ _ h => h) rfl (fun W' hW' => by go_simp) hS0 ?_
                refine take_first 10 (v := .int .i64 dv) rfl (by kernel_rfl) (by kernel_rfl) (by kernel_rfl) (fun _ _ _ h => h) rfl (fun W' hW' => by have e0 := hW'.2; go_simp) hS0 ?_
                refine two_next 2 8 (by kernel_rfl) rfl rfl rfl rfl (fun K1 hK1 => ?_) (fun K1 hK1 => ?_)
                · have HK1 := Lib.hid hK1
                  clear hK1
                  go_simp
                  refine HK1.out _ _ hS0 ?_
                  refine take_first 5 (v := .int .i64 (X + du)) rfl (by kernel_rfl) (by kernel_rfl) (by kernel_rfl) (fun _ _ _ h => h) rfl (fun W' hW' => by go_simp) hS0 ?_
                  refine one_next 8 (by kernel_rfl) rfl rfl fun K2 hK2 => ?_
                  have HK2 := Lib.hid hK2
                  clear hK2
                  go_simp
                  refine HK2.out _ _ hS0 ?_
                  refine take_first 11 (v := .int .i64 (Y + dv)) rfl (by kernel_rfl) (by kernel_rfl) (by kernel_rfl) (fun _ _ _ h => h) rfl (fun W' hW' => by go_simp) hS0 ?_
                  refine take_first 12 (v := .pointer (some ⟨wr.heap.size, 5, none⟩)) rfl (by kernel_rfl) (by kernel_rfl) (by kernel_rfl) (fun _ _ _ h => h) rfl (fun W' hW' => by go_simp) hS0 ?_
                  refine take_first 13 (v := .pointer (some ⟨wr.heap.size, 5, none⟩)) rfl (by kernel_rfl) (by kernel_rfl) (by kernel_rfl) (fun _ _ _ h => h) rfl (fun W' hW' => by go_simp) hS0 ?_
                  refine one_next 14 (by kernel_rfl) rfl rfl fun K3 hK3 => ?_
                  have HK3 := Lib.hid hK3
                  clear hK3
                  have e0 := (bk1.drew).cell' (v := .int .i64 X) 5 rfl
                  have f0 := (bk1.drew).frozen 5
                  go_simp
                  have h3 := shiftS (g := wr.heap.size) hne' 5 (.int .i64 (X + du)) hS0
                  refine HK3.out _ _ h3 ?_
                  clear e0 f0
                  refine take_first 15 (v := .pointer (some ⟨wr.heap.size, 5, none⟩)) rfl (by kernel_rfl) (by kernel_rfl) (by kernel_rfl) (fun _ _ _ h => h) rfl (fun W' hW' => by go_simp) h3 ?_
                  refine take_first 16 (v := .pointer (some ⟨wr.heap.size, 6, none⟩)) rfl (by kernel_rfl) (by kernel_rfl) (by kernel_rfl) (fun _ _ _ h => h) rfl (fun W' hW' => by go_simp) h3 ?_
                  refine one_next 17 (by kernel_rfl) rfl rfl fun K4 hK4 => ?_
                  have HK4 := Lib.hid hK4
                  clear hK4
                  have e0 := (((bk1.drew).put 5 (.int .i64 (X + du)))).cell' (v := .int .i64 Y) 6 rfl
                  have f0 := (((bk1.drew).put 5 (.int .i64 (X + du)))).frozen 6
                  go_simp
                  have h4 := shiftS (g := wr.heap.size) hne' 6 (.int .i64 (Y + dv)) h3
                  refine HK4.out _ _ h4 ?_
                  clear e0 f0
                  refine wpAnyH_done (by kernel_rfl) ?_ _
                  go_simp
                  go_wp2_with fail
                  go_meet
                  exact ⟨(grown_setCell (p := ⟨wr.heap.size, 6, none⟩) (grown_setCell (p := ⟨wr.heap.size, 5, none⟩) (grown_drew g1) (.inr (Nat.le_refl _)) (.int .i64 (X + du))) (.inr (Nat.le_refl _)) (.int .i64 (Y + dv))), ((((bk1.drew).put 5 (.int .i64 (X + du)))).put 6 (.int .i64 (Y + dv)))⟩
                · have HK1 := Lib.hid hK1
                  clear hK1
                  go_simp
                  refine HK1.out _ _ hS0 ?_
                  refine take_first 11 (v := .int .i64 (Y + dv)) rfl (by kernel_rfl) (by kernel_rfl) (by kernel_rfl) (fun _ _ _ h => h) rfl (fun W' hW' => by go_simp) hS0 ?_
                  refine one_next 2 (by kernel_rfl) rfl rfl fun K2 hK2 => ?_
                  have HK2 := Lib.hid hK2
                  clear hK2
                  go_simp
                  refine HK2.out _ _ hS0 ?_
                  refine take_first 5 (v := .int .i64 (X + du)) rfl (by kernel_rfl) (by kernel_rfl) (by kernel_rfl) (fun _ _ _ h => h) rfl (fun W' hW' => by go_simp) hS0 ?_
                  refine take_first 12 (v := .pointer (some ⟨wr.heap.size, 5, none⟩)) rfl (by kernel_rfl) (by kernel_rfl) (by kernel_rfl) (fun _ _ _ h => h) rfl (fun W' hW' => by go_simp) hS0 ?_
                  refine take_first 13 (v := .pointer (some ⟨wr.heap.size, 5, none⟩)) rfl (by kernel_rfl) (by kernel_rfl) (by kernel_rfl) (fun _ _ _ h => h) rfl (fun W' hW' => by go_simp) hS0 ?_
                  refine one_next 14 (by kernel_rfl) rfl rfl fun K3 hK3 => ?_
                  have HK3 := Lib.hid hK3
                  clear hK3
                  have e0 := (bk1.drew).cell' (v := .int .i64 X) 5 rfl
                  have f0 := (bk1.drew).frozen 5
                  go_simp
                  have h3 := shiftS (g := wr.heap.size) hne' 5 (.int .i64 (X + du)) hS0
                  refine HK3.out _ _ h3 ?_
                  clear e0 f0
                  refine take_first 15 (v := .pointer (some ⟨wr.heap.size, 5, none⟩)) rfl (by kernel_rfl) (by kernel_rfl) (by kernel_rfl) (fun _ _ _ h => h) rfl (fun W' hW' => by go_simp) h3 ?_
                  refine take_first 16 (v := .pointer (some ⟨wr.heap.size, 6, none⟩)) rfl (by kernel_rfl) (by kernel_rfl) (by kernel_rfl) (fun _ _ _ h => h) rfl (fun W' hW' => by go_simp) h3 ?_
                  refine one_next 17 (by kernel_rfl) rfl rfl fun K4 hK4 => ?_
                  have HK4 := Lib.hid hK4
                  clear hK4
                  have e0 := (((bk1.drew).put 5 (.int .i64 (X + du)))).cell' (v := .int .i64 Y) 6 rfl
                  have f0 := (((bk1.drew).put 5 (.int .i64 (X + du)))).frozen 6
                  go_simp
                  have h4 := shiftS (g := wr.heap.size) hne' 6 (.int .i64 (Y + dv)) h3
                  refine HK4.out _ _ h4 ?_
                  clear e0 f0
                  refine wpAnyH_done (by kernel_rfl) ?_ _
                  go_simp
                  go_wp2_with fail
                  go_meet
                  exact ⟨(grown_setCell (p := ⟨wr.heap.size, 6, none⟩) (grown_setCell (p := ⟨wr.heap.size, 5, none⟩) (grown_drew g1) (.inr (Nat.le_refl _)) (.int .i64 (X + du))) (.inr (Nat.le_refl _)) (.int .i64 (Y + dv))), ((((bk1.drew).put 5 (.int .i64 (X + du)))).put 6 (.int .i64 (Y + dv)))⟩
              case rest =>
                obtain ⟨g2, bk2⟩ := hcut
                clear g1 bk1 d0 d1
                have z0 := bk2.cell' (v := .int .i64 2) 0 rfl
                have belx := belr.trans ((below_of_grown0 g2).mono hszr)
                have m2x : wc.rangeAt b2 (o2 + i * 22) (lineL (X + du) (Y + dv)) := fun j v hv => (belx.cell (p := ⟨b2, o2 + i * 22 + j, none⟩) hb2).trans (h2 j v hv)
                let S : World → Prop := fun w' => ∃ n, w' = wc.drewN n
                have hl1 : ∀ p : At S, (Instr.loadAt 40 (.pointer (some ⟨wr.heap.size, 0, none⟩))).run Try.prog p.w = .ok (.agg (lineL (X + du) (Y + dv)).toArray) p.w := fun p => by
                  obtain ⟨pw, n, rfl⟩ := p
                  exact run_loadAt_mid _ wr.heap.size 0 40 (lineL (X + du) (Y + dv)) _ (fun j x hx => (bk2.drewN n).cell' (0 + j) (by simpa using hx)) Try.underlying40 rfl (by kernel_rfl)
                have hl2 : ∀ p : At S, (Instr.loadAt 40 (.pointer (some ⟨b2, o2 + i * 22, none⟩))).run Try.prog p.w = .ok (.agg (lineL (X + du) (Y + dv)).toArray) p.w := fun p => by
                  obtain ⟨pw, n, rfl⟩ := p
                  exact run_loadAt_mid _ b2 (o2 + i * 22) 40 (lineL (X + du) (Y + dv)) _ m2x Try.underlying40 rfl (by kernel_rfl)
                have hB : ∀ p : At S, Below wa.heap.size wa p.w := fun p => by obtain ⟨pw, n, rfl⟩ := p; exact below_drewN belx n
                have hs : S wc.drew := ⟨1, rfl⟩
                have inst : Nonempty (At S) := ⟨⟨_, hs⟩⟩
                have HL1 := Lib.hid hl1
                have HL2 := Lib.hid hl2
                clear hl1 hl2 m2x
                clear_value S
                go_upto_region 19 with fail
                refine wp_region_at S (by kernel_rfl) (by kernel_rfl) hs ?_
                repeat (first
                  | (go_big_quiet_want; (first
                      | refine quiet_load 40 (.tmp 19) rfl _ _ rfl HL1.out ?_
                      | refine quiet_load 40 (.tmp 147) rfl _ _ rfl HL2.out ?_
                      | refine quiet_neq 40 40 (.tmp 144) (.tmp 148) rfl (lineL (X + du) (Y + dv)).toArray (lineL (X + du) (Y + dv)).toArray false rfl rfl (by kernel_rfl) (fun p => hpl.2 p.w) ?_); simp only [Act.put, List.setIfInBounds_toArray, List.set_cons_zero, List.set_cons_succ]; go_big_quiet_on)
                  | go_big_quiet_step (fail))
                refine wpQuiet_nil ?_
                rintro _ ⟨p, rfl⟩
                go_wp2_with fail
                go_roundw
                case rel => exact ⟨i + 1, hlt, by go_num, hB p⟩
                case measure => simp [intOf]; omega
            · skip
              go_upto_region 16 with (first
                | ((with_reducible refine go_load_mid 40 (.tmp 107) b1 (o1 + i * 22) (turnL X Y C D) _ (by with_unfolding_all rfl) (by with_unfolding_all exact m1) Try.underlying40 (by with_unfolding_all rfl) (by with_unfolding_all kernel_rfl) ?_))
                | ((with_reducible refine go_store_row 40 (.tmp 19) (.tmp 108) wr.heap.size (turnL X Y C D).toArray 40 #[.int .i64 0, .int .i64 0, .int .i64 0, .int .i64 0, .int .i64 0, .int .i64 0, .int .i64 0, .int .i64 0, .int .i64 0, .int .i64 0, .int .i64 0, .int .i64 0, .int .i64 0, .bool false, .int .i64 0, .bool false, .int .i64 0, .int .i64 0, .int .i64 0, .int .i64 0, .int .i64 0, .bool false] (by with_unfolding_all rfl) (by with_unfolding_all rfl) (by with_unfolding_all exact Blk.new wr _ _) (by with_unfolding_all kernel_rfl) (by with_unfolding_all rfl) (turn_one _ _ _ _) ?_); refine on_told (fun w' => wr.grownBy w' none ∧ Blk w' wr.heap.size 40 (turnL X Y C D).toArray) (item_made (grown_refl wr none) _) ?_; rintro W1 ⟨g1, bk1⟩; have d0 := (kr.grown g1 (by simp)).cell' 0 rfl; have d1 := (kr.grown g1 (by simp)).cell' 1 rfl))
              simp only [Act.put]
              go_cut [] (fun wx => wr.grownBy wx none ∧ Blk wx wr.heap.size 40 (turnL (X + du) (Y + dv) C D).toArray)
              case first =>
                refine wp_region_held_drew (S := fun w' => w'.cell? ⟨w.heap.size + 1, 0, none⟩ = some (.int .i64 du) ∧ w'.cell? ⟨w.heap.size + 1, 1, none⟩ = some (.int .i64 dv)) (by kernel_rfl) ⟨d0, d1⟩ fun hS0 => ?_
                clear d0 d1
                have e5 := bk1.cell' (v := .int .i64 X) 5 rfl
                have e6 := bk1.cell' (v := .int .i64 Y) 6 rfl
                have f5 := bk1.frozen 5
                have f6 := bk1.frozen 6
                have q5 : IntKind.i64.wrap (X + du) = X + du := by rw [IntKind.wrap_i64]; omega
                have q6 : IntKind.i64.wrap (Y + dv) = Y + dv := by rw [IntKind.wrap_i64]; omega
                refine take_first 0 (v := .pointer (some ⟨wr.heap.size, 5, none⟩)) rfl (by kernel_rfl) (by kernel_rfl) (by kernel_rfl) (fun _ _ _ h => h) rfl (fun W' hW' => by go_simp) hS0 ?_
                refine take_first 1 (v := .pointer (some ⟨wr.heap.size, 5, none⟩)) rfl (by kernel_rfl) (by kernel_rfl) (by kernel_rfl) (fun _ _ _ h => h) rfl (fun W' hW' => by go_simp) hS0 ?_
                refine take_first 3 (v := .pointer (some ⟨w.heap.size + 1, 0, none⟩)) rfl (by kernel_rfl) (by kernel_rfl) (by kernel_rfl) (fun _ _ _ h => h) rfl (fun W' hW' => by go_simp) hS0 ?_
                refine take_first 4 (v := .int .i64 du) rfl (by kernel_rfl) (by kernel_rfl) (by kernel_rfl) (fun _ _ _ h => h) rfl (fun W' hW' => by have e0 := hW'.1; go_simp) hS0 ?_
                refine take_first 6 (v := .pointer (some ⟨wr.heap.size, 5, none⟩)) rfl (by kernel_rfl) (by kernel_rfl) (by kernel_rfl) (fun _ _ _ h => h) rfl (fun W' hW' => by go_simp) hS0 ?_
                refine take_first 7 (v := .pointer (some ⟨wr.heap.size, 6, none⟩)) rfl (by kernel_rfl) (by kernel_rfl) (by kernel_rfl) (fun _ _ _ h => h) rfl (fun W' hW' => by go_simp) hS0 ?_
                refine take_first 9 (v := .pointer (some ⟨w.heap.size + 1, 1, none⟩)) rfl (by kernel_rfl) (by kernel_rfl) (by kernel_rfl) (fun _ _ _ h => h) rfl (fun W' hW' => by go_simp) hS0 ?_
                refine take_first 10 (v := .int .i64 dv) rfl (by kernel_rfl) (by kernel_rfl) (by kernel_rfl) (fun _ _ _ h => h) rfl (fun W' hW' => by have e0 := hW'.2; go_simp) hS0 ?_
                refine two_next 2 8 (by kernel_rfl) rfl rfl rfl rfl (fun K1 hK1 => ?_) (fun K1 hK1 => ?_)
                · have HK1 := Lib.hid hK1
                  clear hK1
                  go_simp
                  refine HK1.out _ _ hS0 ?_
                  refine take_first 5 (v := .int .i64 (X + du)) rfl (by kernel_rfl) (by kernel_rfl) (by kernel_rfl) (fun _ _ _ h => h) rfl (fun W' hW' => by go_simp) hS0 ?_
                  refine one_next 8 (by kernel_rfl) rfl rfl fun K2 hK2 => ?_
                  have HK2 := Lib.hid hK2
                  clear hK2
                  go_simp
                  refine HK2.out _ _ hS0 ?_
                  refine take_first 11 (v := .int .i64 (Y + dv)) rfl (by kernel_rfl) (by kernel_rfl) (by kernel_rfl) (fun _ _ _ h => h) rfl (fun W' hW' => by go_simp) hS0 ?_
                  refine take_first 12 (v := .pointer (some ⟨wr.heap.size, 5, none⟩)) rfl (by kernel_rfl) (by kernel_rfl) (by kernel_rfl) (fun _ _ _ h => h) rfl (fun W' hW' => by go_simp) hS0 ?_
                  refine take_first 13 (v := .pointer (some ⟨wr.heap.size, 5, none⟩)) rfl (by kernel_rfl) (by kernel_rfl) (by kernel_rfl) (fun _ _ _ h => h) rfl (fun W' hW' => by go_simp) hS0 ?_
                  refine one_next 14 (by kernel_rfl) rfl rfl fun K3 hK3 => ?_
                  have HK3 := Lib.hid hK3
                  clear hK3
                  have e0 := (bk1.drew).cell' (v := .int .i64 X) 5 rfl
                  have f0 := (bk1.drew).frozen 5
                  go_simp
                  have h3 := shiftS (g := wr.heap.size) hne' 5 (.int .i64 (X + du)) hS0
                  refine HK3.out _ _ h3 ?_
                  clear e0 f0
                  refine take_first 15 (v := .pointer (some ⟨wr.heap.size, 5, none⟩)) rfl (by kernel_rfl) (by kernel_rfl) (by kernel_rfl) (fun _ _ _ h => h) rfl (fun W' hW' => by go_simp) h3 ?_
                  refine take_first 16 (v := .pointer (some ⟨wr.heap.size, 6, none⟩)) rfl (by kernel_rfl) (by kernel_rfl) (by kernel_rfl) (fun _ _ _ h => h) rfl (fun W' hW' => by go_simp) h3 ?_
                  refine one_next 17 (by kernel_rfl) rfl rfl fun K4 hK4 => ?_
                  have HK4 := Lib.hid hK4
                  clear hK4
                  have e0 := (((bk1.drew).put 5 (.int .i64 (X + du)))).cell' (v := .int .i64 Y) 6 rfl
                  have f0 := (((bk1.drew).put 5 (.int .i64 (X + du)))).frozen 6
                  go_simp
                  have h4 := shiftS (g := wr.heap.size) hne' 6 (.int .i64 (Y + dv)) h3
                  refine HK4.out _ _ h4 ?_
                  clear e0 f0
                  refine wpAnyH_done (by kernel_rfl) ?_ _
                  go_simp
                  go_wp2_with fail
                  go_meet
                  exact ⟨(grown_setCell (p := ⟨wr.heap.size, 6, none⟩) (grown_setCell (p := ⟨wr.heap.size, 5, none⟩) (grown_drew g1) (.inr (Nat.le_refl _)) (.int .i64 (X + du))) (.inr (Nat.le_refl _)) (.int .i64 (Y + dv))), ((((bk1.drew).put 5 (.int .i64 (X + du)))).put 6 (.int .i64 (Y + dv)))⟩
                · have HK1 := Lib.hid hK1
                  clear hK1
                  go_simp
                  refine HK1.out _ _ hS0 ?_
                  refine take_first 11 (v := .int .i64 (Y + dv)) rfl (by kernel_rfl) (by kernel_rfl) (by kernel_rfl) (fun _ _ _ h => h) rfl (fun W' hW' => by go_simp) hS0 ?_
                  refine one_next 2 (by kernel_rfl) rfl rfl fun K2 hK2 => ?_
                  have HK2 := Lib.hid hK2
                  clear hK2
                  go_simp
                  refine HK2.out _ _ hS0 ?_
                  refine take_first 5 (v := .int .i64 (X + du)) rfl (by kernel_rfl) (by kernel_rfl) (by kernel_rfl) (fun _ _ _ h => h) rfl (fun W' hW' => by go_simp) hS0 ?_
                  refine take_first 12 (v := .pointer (some ⟨wr.heap.size, 5, none⟩)) rfl (by kernel_rfl) (by kernel_rfl) (by kernel_rfl) (fun _ _ _ h => h) rfl (fun W' hW' => by go_simp) hS0 ?_
                  refine take_first 13 (v := .pointer (some ⟨wr.heap.size, 5, none⟩)) rfl (by kernel_rfl) (by kernel_rfl) (by kernel_rfl) (fun _ _ _ h => h) rfl (fun W' hW' => by go_simp) hS0 ?_
                  refine one_next 14 (by kernel_rfl) rfl rfl fun K3 hK3 => ?_
                  have HK3 := Lib.hid hK3
                  clear hK3
                  have e0 := (bk1.drew).cell' (v := .int .i64 X) 5 rfl
                  have f0 := (bk1.drew).frozen 5
                  go_simp
                  have h3 := shiftS (g := wr.heap.size) hne' 5 (.int .i64 (X + du)) hS0
                  refine HK3.out _ _ h3 ?_
                  clear e0 f0
                  refine take_first 15 (v := .pointer (some ⟨wr.heap.size, 5, none⟩)) rfl (by kernel_rfl) (by kernel_rfl) (by kernel_rfl) (fun _ _ _ h => h) rfl (fun W' hW' => by go_simp) h3 ?_
                  refine take_first 16 (v := .pointer (some ⟨wr.heap.size, 6, none⟩)) rfl (by kernel_rfl) (by kernel_rfl) (by kernel_rfl) (fun _ _ _ h => h) rfl (fun W' hW' => by go_simp) h3 ?_
                  refine one_next 17 (by kernel_rfl) rfl rfl fun K4 hK4 => ?_
                  have HK4 := Lib.hid hK4
                  clear hK4
                  have e0 := (((bk1.drew).put 5 (.int .i64 (X + du)))).cell' (v := .int .i64 Y) 6 rfl
                  have f0 := (((bk1.drew).put 5 (.int .i64 (X + du)))).frozen 6
                  go_simp
                  have h4 := shiftS (g := wr.heap.size) hne' 6 (.int .i64 (Y + dv)) h3
                  refine HK4.out _ _ h4 ?_
                  clear e0 f0
                  refine wpAnyH_done (by kernel_rfl) ?_ _
                  go_simp
                  go_wp2_with fail
                  go_meet
                  exact ⟨(grown_setCell (p := ⟨wr.heap.size, 6, none⟩) (grown_setCell (p := ⟨wr.heap.size, 5, none⟩) (grown_drew g1) (.inr (Nat.le_refl _)) (.int .i64 (X + du))) (.inr (Nat.le_refl _)) (.int .i64 (Y + dv))), ((((bk1.drew).put 5 (.int .i64 (X + du)))).put 6 (.int .i64 (Y + dv)))⟩
              case rest =>
                obtain ⟨g2, bk2⟩ := hcut
                clear g1 bk1 d0 d1
                have z0 := bk2.cell' (v := .int .i64 3) 0 rfl
                have d0 := (kr.grown g2 (by simp)).cell' 0 rfl
                have d1 := (kr.grown g2 (by simp)).cell' 1 rfl
                go_upto_region 18 with fail
                go_cut [] (fun wx => wr.grownBy wx none ∧ Blk wx wr.heap.size 40 (turnL (X + du) (Y + dv) (C + du) (D + dv)).toArray)
                case first =>
                  refine wp_region_held_drew (S := fun w' => w'.cell? ⟨w.heap.size + 1, 0, none⟩ = some (.int .i64 du) ∧ w'.cell? ⟨w.heap.size + 1, 1, none⟩ = some (.int .i64 dv)) (by kernel_rfl) ⟨d0, d1⟩ fun hS0 => ?_
                  clear d0 d1
                  have e5 := bk2.cell' (v := .int .i64 C) 9 rfl
                  have e6 := bk2.cell' (v := .int .i64 D) 10 rfl
                  have f5 := bk2.frozen 9
                  have f6 := bk2.frozen 10
                  have q5 : IntKind.i64.wrap (C + du) = C + du := by rw [IntKind.wrap_i64]; omega
                  have q6 : IntKind.i64.wrap (D + dv) = D + dv := by rw [IntKind.wrap_i64]; omega
                  refine take_first 0 (v := .pointer (some ⟨wr.heap.size, 9, none⟩)) rfl (by kernel_rfl) (by kernel_rfl) (by kernel_rfl) (fun _ _ _ h => h) rfl (fun W' hW' => by go_simp) hS0 ?_
                  refine take_first 1 (v := .pointer (some ⟨wr.heap.size, 9, none⟩)) rfl (by kernel_rfl) (by kernel_rfl) (by kernel_rfl) (fun _ _ _ h => h) rfl (fun W' hW' => by go_simp) hS0 ?_
                  refine take_first 3 (v := .pointer (some ⟨w.heap.size + 1, 0, none⟩)) rfl (by kernel_rfl) (by kernel_rfl) (by kernel_rfl) (fun _ _ _ h => h) rfl (fun W' hW' => by go_simp) hS0 ?_
                  refine take_first 4 (v := .int .i64 du) rfl (by kernel_rfl) (by kernel_rfl) (by kernel_rfl) (fun _ _ _ h => h) rfl (fun W' hW' => by have e0 := hW'.1; go_simp) hS0 ?_
                  refine take_first 6 (v := .pointer (some ⟨wr.heap.size, 9, none⟩)) rfl (by kernel_rfl) (by kernel_rfl) (by kernel_rfl) (fun _ _ _ h => h) rfl (fun W' hW' => by go_simp) hS0 ?_
                  refine take_first 7 (v := .pointer (some ⟨wr.heap.size, 10, none⟩)) rfl (by kernel_rfl) (by kernel_rfl) (by kernel_rfl) (fun _ _ _ h => h) rfl (fun W' hW' => by go_simp) hS0 ?_
                  refine take_first 9 (v := .pointer (some ⟨w.heap.size + 1, 1, none⟩)) rfl (by kernel_rfl) (by kernel_rfl) (by kernel_rfl) (fun _ _ _ h => h) rfl (fun W' hW' => by go_simp) hS0 ?_
                  refine take_first 10 (v := .int .i64 dv) rfl (by kernel_rfl) (by kernel_rfl) (by kernel_rfl) (fun _ _ _ h => h) rfl (fun W' hW' => by have e0 := hW'.2; go_simp) hS0 ?_
                  refine two_next 2 8 (by kernel_rfl) rfl rfl rfl rfl (fun K1 hK1 => ?_) (fun K1 hK1 => ?_)
                  · have HK1 := Lib.hid hK1
                    clear hK1
                    go_simp
                    refine HK1.out _ _ hS0 ?_
                    refine take_first 5 (v := .int .i64 (C + du)) rfl (by kernel_rfl) (by kernel_rfl) (by kernel_rfl) (fun _ _ _ h => h) rfl (fun W' hW' => by go_simp) hS0 ?_
                    refine one_next 8 (by kernel_rfl) rfl rfl fun K2 hK2 => ?_
                    have HK2 := Lib.hid hK2
                    clear hK2
                    go_simp
                    refine HK2.out _ _ hS0 ?_
                    refine take_first 11 (v := .int .i64 (D + dv)) rfl (by kernel_rfl) (by kernel_rfl) (by kernel_rfl) (fun _ _ _ h => h) rfl (fun W' hW' => by go_simp) hS0 ?_
                    refine take_first 12 (v := .pointer (some ⟨wr.heap.size, 9, none⟩)) rfl (by kernel_rfl) (by kernel_rfl) (by kernel_rfl) (fun _ _ _ h => h) rfl (fun W' hW' => by go_simp) hS0 ?_
                    refine take_first 13 (v := .pointer (some ⟨wr.heap.size, 9, none⟩)) rfl (by kernel_rfl) (by kernel_rfl) (by kernel_rfl) (fun _ _ _ h => h) rfl (fun W' hW' => by go_simp) hS0 ?_
                    refine one_next 14 (by kernel_rfl) rfl rfl fun K3 hK3 => ?_
                    have HK3 := Lib.hid hK3
                    clear hK3
                    have e0 := (bk2.drew).cell' (v := .int .i64 C) 9 rfl
                    have f0 := (bk2.drew).frozen 9
                    go_simp
                    have h3 := shiftS (g := wr.heap.size) hne' 9 (.int .i64 (C + du)) hS0
                    refine HK3.out _ _ h3 ?_
                    clear e0 f0
                    refine take_first 15 (v := .pointer (some ⟨wr.heap.size, 9, none⟩)) rfl (by kernel_rfl) (by kernel_rfl) (by kernel_rfl) (fun _ _ _ h => h) rfl (fun W' hW' => by go_simp) h3 ?_
                    refine take_first 16 (v := .pointer (some ⟨wr.heap.size, 10, none⟩)) rfl (by kernel_rfl) (by kernel_rfl) (by kernel_rfl) (fun _ _ _ h => h) rfl (fun W' hW' => by go_simp) h3 ?_
                    refine one_next 17 (by kernel_rfl) rfl rfl fun K4 hK4 => ?_
                    have HK4 := Lib.hid hK4
                    clear hK4
                    have e0 := (((bk2.drew).put 9 (.int .i64 (C + du)))).cell' (v := .int .i64 D) 10 rfl
                    have f0 := (((bk2.drew).put 9 (.int .i64 (C + du)))).frozen 10
                    go_simp
                    have h4 := shiftS (g := wr.heap.size) hne' 10 (.int .i64 (D + dv)) h3
                    refine HK4.out _ _ h4 ?_
                    clear e0 f0
                    refine wpAnyH_done (by kernel_rfl) ?_ _
                    go_simp
                    go_wp2_with fail
                    go_meet
                    exact ⟨(grown_setCell (p := ⟨wr.heap.size, 10, none⟩) (grown_setCell (p := ⟨wr.heap.size, 9, none⟩) (grown_drew g2) (.inr (Nat.le_refl _)) (.int .i64 (C + du))) (.inr (Nat.le_refl _)) (.int .i64 (D + dv))), ((((bk2.drew).put 9 (.int .i64 (C + du)))).put 10 (.int .i64 (D + dv)))⟩
                  · have HK1 := Lib.hid hK1
                    clear hK1
                    go_simp
                    refine HK1.out _ _ hS0 ?_
                    refine take_first 11 (v := .int .i64 (D + dv)) rfl (by kernel_rfl) (by kernel_rfl) (by kernel_rfl) (fun _ _ _ h => h) rfl (fun W' hW' => by go_simp) hS0 ?_
                    refine one_next 2 (by kernel_rfl) rfl rfl fun K2 hK2 => ?_
                    have HK2 := Lib.hid hK2
                    clear hK2
                    go_simp
                    refine HK2.out _ _ hS0 ?_
                    refine take_first 5 (v := .int .i64 (C + du)) rfl (by kernel_rfl) (by kernel_rfl) (by kernel_rfl) (fun _ _ _ h => h) rfl (fun W' hW' => by go_simp) hS0 ?_
                    refine take_first 12 (v := .pointer (some ⟨wr.heap.size, 9, none⟩)) rfl (by kernel_rfl) (by kernel_rfl) (by kernel_rfl) (fun _ _ _ h => h) rfl (fun W' hW' => by go_simp) hS0 ?_
                    refine take_first 13 (v := .pointer (some ⟨wr.heap.size, 9, none⟩)) rfl (by kernel_rfl) (by kernel_rfl) (by kernel_rfl) (fun _ _ _ h => h) rfl (fun W' hW' => by go_simp) hS0 ?_
                    refine one_next 14 (by kernel_rfl) rfl rfl fun K3 hK3 => ?_
                    have HK3 := Lib.hid hK3
                    clear hK3
                    have e0 := (bk2.drew).cell' (v := .int .i64 C) 9 rfl
                    have f0 := (bk2.drew).frozen 9
                    go_simp
                    have h3 := shiftS (g := wr.heap.size) hne' 9 (.int .i64 (C + du)) hS0
                    refine HK3.out _ _ h3 ?_
                    clear e0 f0
                    refine take_first 15 (v := .pointer (some ⟨wr.heap.size, 9, none⟩)) rfl (by kernel_rfl) (by kernel_rfl) (by kernel_rfl) (fun _ _ _ h => h) rfl (fun W' hW' => by go_simp) h3 ?_
                    refine take_first 16 (v := .pointer (some ⟨wr.heap.size, 10, none⟩)) rfl (by kernel_rfl) (by kernel_rfl) (by kernel_rfl) (fun _ _ _ h => h) rfl (fun W' hW' => by go_simp) h3 ?_
                    refine one_next 17 (by kernel_rfl) rfl rfl fun K4 hK4 => ?_
                    have HK4 := Lib.hid hK4
                    clear hK4
                    have e0 := (((bk2.drew).put 9 (.int .i64 (C + du)))).cell' (v := .int .i64 D) 10 rfl
                    have f0 := (((bk2.drew).put 9 (.int .i64 (C + du)))).frozen 10
                    go_simp
                    have h4 := shiftS (g := wr.heap.size) hne' 10 (.int .i64 (D + dv)) h3
                    refine HK4.out _ _ h4 ?_
                    clear e0 f0
                    refine wpAnyH_done (by kernel_rfl) ?_ _
                    go_simp
                    go_wp2_with fail
                    go_meet
                    exact ⟨(grown_setCell (p := ⟨wr.heap.size, 10, none⟩) (grown_setCell (p := ⟨wr.heap.size, 9, none⟩) (grown_drew g2) (.inr (Nat.le_refl _)) (.int .i64 (C + du))) (.inr (Nat.le_refl _)) (.int .i64 (D + dv))), ((((bk2.drew).put 9 (.int .i64 (C + du)))).put 10 (.int .i64 (D + dv)))⟩
                case rest =>
                  obtain ⟨g3, bk3⟩ := hcut
                  clear g2 bk2 d0 d1 z0
                  have belx := belr.trans ((below_of_grown0 g3).mono hszr)
                  have m2x : wc.rangeAt b2 (o2 + i * 22) (turnL (X + du) (Y + dv) (C + du) (D + dv)) := fun j v hv => (belx.cell (p := ⟨b2, o2 + i * 22 + j, none⟩) hb2).trans (h2 j v hv)
                  let S : World → Prop := fun w' => ∃ n, w' = wc.drewN n
                  have hl1 : ∀ p : At S, (Instr.loadAt 40 (.pointer (some ⟨wr.heap.size, 0, none⟩))).run Try.prog p.w = .ok (.agg (turnL (X + du) (Y + dv) (C + du) (D + dv)).toArray) p.w := fun p => by
                    obtain ⟨pw, n, rfl⟩ := p
                    exact run_loadAt_mid _ wr.heap.size 0 40 (turnL (X + du) (Y + dv) (C + du) (D + dv)) _ (fun j x hx => (bk3.drewN n).cell' (0 + j) (by simpa using hx)) Try.underlying40 rfl (by kernel_rfl)
                  have hl2 : ∀ p : At S, (Instr.loadAt 40 (.pointer (some ⟨b2, o2 + i * 22, none⟩))).run Try.prog p.w = .ok (.agg (turnL (X + du) (Y + dv) (C + du) (D + dv)).toArray) p.w := fun p => by
                    obtain ⟨pw, n, rfl⟩ := p
                    exact run_loadAt_mid _ b2 (o2 + i * 22) 40 (turnL (X + du) (Y + dv) (C + du) (D + dv)) _ m2x Try.underlying40 rfl (by kernel_rfl)
                  have hB : ∀ p : At S, Below wa.heap.size wa p.w := fun p => by obtain ⟨pw, n, rfl⟩ := p; exact below_drewN belx n
                  have hs : S wc.drew := ⟨1, rfl⟩
                  have inst : Nonempty (At S) := ⟨⟨_, hs⟩⟩
                  have HL1 := Lib.hid hl1
                  have HL2 := Lib.hid hl2
                  clear hl1 hl2 m2x
                  clear_value S
                  go_upto_region 19 with fail
                  refine wp_region_at S (by kernel_rfl) (by kernel_rfl) hs ?_
                  repeat (first
                    | (go_big_quiet_want; (first
                        | refine quiet_load 40 (.tmp 19) rfl _ _ rfl HL1.out ?_
                        | refine quiet_load 40 (.tmp 147) rfl _ _ rfl HL2.out ?_
                        | refine quiet_neq 40 40 (.tmp 144) (.tmp 148) rfl (turnL (X + du) (Y + dv) (C + du) (D + dv)).toArray (turnL (X + du) (Y + dv) (C + du) (D + dv)).toArray false rfl rfl (by kernel_rfl) (fun p => hpl.2 p.w) ?_); simp only [Act.put, List.setIfInBounds_toArray, List.set_cons_zero, List.set_cons_succ]; go_big_quiet_on)
                    | go_big_quiet_step (fail))
                  refine wpQuiet_nil ?_
                  rintro _ ⟨p, rfl⟩
                  go_wp2_with fail
                  go_roundw
                  case rel => exact ⟨i + 1, hlt, by go_num, hB p⟩
                  case measure => simp [intOf]; omega
          · obtain rfl : i = len := by omega
            go_wp2_with fail
            go_ret
            exact ⟨rfl, bfr⟩
end Go.Proofs.Ytnbfhdapdlpgiaa

/-
  PocketWalls returns true. Its arguments: any.
-/
import Derived.Test.YtnbfhdapdlpgiaaRLaw15
import Derived.BigQuiet
namespace Go.Proofs.Ytnbfhdapdlpgiaa
open Go Go.RowKit
set_option linter.unusedVariables false

/-! ### The plain law -/
theorem recL_at (cu cw wd dp size : Int) : ∀ (rs : List Int) (k j : Nat) (r : Int), rs[k]? = some r → j < 5 → (recL cu cw wd dp size rs)[5 * k + j]? = some (lineL (cu + pu (hlf wd size r) j) (cw + pw (hlf dp size r) j))
  | [], k, j, r, h, _ => by simp at h
  | x :: rs, 0, j, r, h, hj => by
    simp at h
    subst h
    have e : recL cu cw wd dp size (x :: rs) = ringR cu cw wd dp size x ++ recL cu cw wd dp size rs := by simp [recL]
    rw [e, ← fiveL_all, List.getElem?_append_left (by rw [fiveL_len]; omega)]
    unfold fiveL
    simp [hj]
  | x :: rs, k + 1, j, r, h, hj => by
    have := recL_at cu cw wd dp size rs k j r (by simpa using h) hj
    have e : recL cu cw wd dp size (x :: rs) = ringR cu cw wd dp size x ++ recL cu cw wd dp size rs := by simp [recL]
    rw [e, ← fiveL_all, List.getElem?_append_right (by rw [fiveL_len]; omega), fiveL_len, show 5 * (k + 1) + j - 5 = 5 * k + j by omega]
    exact this
theorem rectL_at {cu cw wd dp step : Int} {i : Nat} (h : i < 5 * rgN (mxx wd dp) step) : (rectL cu cw wd dp step)[i]? = some (lineL (cu + pu (hlf wd (mxx wd dp) (ring (mxx wd dp) step (i / 5))) (i % 5)) (cw + pw (hlf dp (mxx wd dp) (ring (mxx wd dp) step (i / 5))) (i % 5))) := by
  have hk : i / 5 < rgN (mxx wd dp) step := by omega
  have := recL_at cu cw wd dp (mxx wd dp) (ringsL (mxx wd dp) step) (i / 5) (i % 5) _ (ringsL_at hk) (by omega)
  have hl := recL_len cu cw wd dp (mxx wd dp) (ringsL (mxx wd dp) step)
  rw [ringsL_len] at hl
  unfold rectL
  rw [List.getElem?_append_left (by omega)]
  rw [show 5 * (i / 5) + i % 5 = i by omega] at this
  exact this
theorem rectL_last (cu cw wd dp step : Int) : (rectL cu cw wd dp step)[5 * rgN (mxx wd dp) step]? = some (lineL cu cw) := by
  have hl := recL_len cu cw wd dp (mxx wd dp) (ringsL (mxx wd dp) step)
  rw [ringsL_len] at hl
  unfold rectL
  rw [List.getElem?_append_right (by omega), hl, Nat.sub_self]
  rfl
/-- The greatest distance so far. -/
def mmx (A : Nat → Int) (N i : Nat) : Int := if i = 0 then 0 else A (min ((i - 1) / 5) (N - 1))
theorem mmx_in {A : Nat → Int} {N i : Nat} (h : i < 5 * N) : mmx A N (i + 1) = A (i / 5) := by unfold mmx; rw [if_neg (by omega), Nat.add_sub_cancel, Nat.min_eq_left (by omega)]
theorem mmx_end {A : Nat → Int} {N : Nat} (h : 1 ≤ N) : mmx A N (5 * N) = A (N - 1) ∧ mmx A N (5 * N + 1) = A (N - 1) := by
  unfold mmx
  rw [if_neg (by omega), if_neg (by omega), Nat.min_eq_right (by omega), Nat.min_eq_right (by omega)]
  exact ⟨rfl, rfl⟩
theorem mmx_le {A : Nat → Int} {N i : Nat} (h0 : ∀ k, k < N → 0 ≤ A k) (hm : ∀ k, k + 1 < N → A k ≤ A (k + 1)) (h : i < 5 * N) : mmx A N i ≤ A (i / 5) := by
  unfold mmx
  split
  · exact h0 _ (by omega)
  · rw [Nat.min_eq_left (by omega)]
    rcases Nat.lt_or_ge ((i - 1) / 5) (i / 5) with h1 | h1
    · have : i / 5 = (i - 1) / 5 + 1 := by omega
      rw [this]
      exact hm _ (by omega)
    · rw [show i / 5 = (i - 1) / 5 by omega]; exact Int.le_refl _
/-- What is told of the distances of the rings. -/
def Dist (wd size : Int) (A : Nat → Int) (N : Nat) : Prop := (∀ k, k < N → 0 ≤ A k ∧ A k ≤ wd) ∧ (∀ k, k + 1 < N → A k ≤ A (k + 1)) ∧ A (N - 1) = wd
theorem dist_of {wd size step : Int} (h0 : 0 ≤ wd) (h1 : wd ≤ size) (h2 : 1 ≤ size) (h3 : 1 ≤ step) : Dist wd size (fun k => hlf wd size (ring size step k)) (rgN size step) := by
  have hp := rgN_pos h2 h3
  refine ⟨fun k hk => ?_, fun k hk => ?_, ?_⟩
  · have := ring_bd h2 h3 hk
    dsimp only
    unfold hlf
    split <;> omega
  · have := ring_le h2 h3 hk
    dsimp only
    unfold hlf
    split <;> split <;> omega
  · dsimp only
    rw [ring_last (by omega)]
    unfold hlf
    split <;> omega
theorem pu_abs (a : Int) (j : Nat) : pu a j = a ∨ pu a j = -a := by unfold pu; split <;> simp
theorem pw_abs (b : Int) (j : Nat) : pw b j = b ∨ pw b j = -b := by unfold pw; split <;> simp
theorem walls_side (a b : Int) (j : Nat) (h : j + 1 < 5) : pu a (j + 1) = pu a j ∨ pw b (j + 1) = pw b j := by
  match j, h with
  | 0, _ => exact .inl rfl
  | 1, _ => exact .inr rfl
  | 2, _ => exact .inl rfl
  | 3, _ => exact .inr rfl
/-- A cell of an item that is a straight motion. -/
def LineAt (W : World) (b p : Nat) (X Y : Int) : Prop := W.cell? ⟨b, p, none⟩ = some (.int .i64 2) ∧ W.cell? ⟨b, p + 5, none⟩ = some (.int .i64 X) ∧ W.cell? ⟨b, p + 6, none⟩ = some (.int .i64 Y) ∧ W.cell? ⟨b, p + 7, none⟩ = some (.int .i64 0)
theorem lineAt_of {W : World} {b p : Nat} {X Y : Int} (h : W.rangeAt b p (lineL X Y)) : LineAt W b p X Y := ⟨h 0 _ rfl, h 5 _ rfl, h 6 _ rfl, h 7 _ rfl⟩

theorem drewN_two (w : World) (n m : Nat) : ∃ k, (w.drewN n).drewN m = w.drewN k := ⟨n + m, by simp [World.drewN, Nat.add_assoc]⟩
/-- M is the greatest of m, x and -x. -/
def Mx (m x M : Int) : Prop := m ≤ M ∧ x ≤ M ∧ -x ≤ M ∧ (M = m ∨ M = x ∨ M = -x)
theorem walls_key {A B : Nat → Int} {N : Nat} {wd dp size u v : Int} {L : List (List Value)} (hA : Dist wd size A N) (hB : Dist dp size B N) (hL : ∀ i, i < 5 * N → L[i]? = some (lineL (u + pu (A (i / 5)) (i % 5)) (v + pw (B (i / 5)) (i % 5)))) (hl : L[5 * N]? = some (lineL u v))
    (hN : 1 ≤ N) (h0 : 0 ≤ wd) (h0' : 0 ≤ dp) (i : Nat) (hi : i ≤ 5 * N) : ∃ x y : Int, L[i]? = some (lineL (u + x) (v + y)) ∧ (-wd ≤ x ∧ x ≤ wd) ∧ (-dp ≤ y ∧ y ≤ dp) ∧ Mx (mmx A N i) x (mmx A N (i + 1)) ∧ Mx (mmx B N i) y (mmx B N (i + 1)) ∧
      (0 < i % 5 → ∃ x' y' : Int, L[i - 1]? = some (lineL (u + x') (v + y')) ∧ (-wd ≤ x' ∧ x' ≤ wd) ∧ (-dp ≤ y' ∧ y' ≤ dp) ∧ (x' = x ∨ y' = y)) := by
  by_cases h : i < 5 * N
  · have hk : i / 5 < N := by omega
    have a1 := hA.1 _ hk
    have b1 := hB.1 _ hk
    have a2 := mmx_le (fun k h => (hA.1 k h).1) hA.2.1 h
    have b2 := mmx_le (fun k h => (hB.1 k h).1) hB.2.1 h
    refine ⟨_, _, hL i h, ?_, ?_, ?_, ?_, ?_⟩
    · rcases pu_abs (A (i / 5)) (i % 5) with e | e <;> rw [e] <;> omega
    · rcases pw_abs (B (i / 5)) (i % 5) with e | e <;> rw [e] <;> omega
    · rw [mmx_in h]; unfold Mx; rcases pu_abs (A (i / 5)) (i % 5) with e | e <;> rw [e] <;> omega
    · rw [mmx_in h]; unfold Mx; rcases pw_abs (B (i / 5)) (i % 5) with e | e <;> rw [e] <;> omega
    · intro hm
      have e1 : (i - 1) / 5 = i / 5 := by omega
      have e2 : i % 5 = (i - 1) % 5 + 1 := by omega
      refine ⟨_, _, hL (i - 1) (by omega), ?_, ?_, ?_⟩
      · rw [e1]; rcases pu_abs (A (i / 5)) ((i - 1) % 5) with e | e <;> rw [e] <;> omega
      · rw [e1]; rcases pw_abs (B (i / 5)) ((i - 1) % 5) with e | e <;> rw [e] <;> omega
      · rw [e1, e2]
        rcases walls_side (A (i / 5)) (B (i / 5)) ((i - 1) % 5) (by omega) with e | e
        · exact .inl e.symm
        · exact .inr e.symm
  · obtain rfl : i = 5 * N := by omega
    have a := mmx_end (A := A) hN
    have b := mmx_end (A := B) hN
    have a3 := hA.1 (N - 1) (by omega)
    have b3 := hB.1 (N - 1) (by omega)
    refine ⟨0, 0, by simpa using hl, by omega, by omega, ?_, ?_, fun hm => by omega⟩
    · rw [a.1, a.2]; unfold Mx; omega
    · rw [b.1, b.2]; unfold Mx; omega

set_option maxRecDepth 100000 in
set_option maxHeartbeats 4000000 in
theorem walls_walk (cc : List Value) (a1 a2 a3 : Int) (w : World) (hc : Leaves w ptKs cc) : Calls Try.prog 8 #[.agg cc.toArray, .int .i64 a1, .int .i64 a2, .int .i64 a3] w fun e w' => e = .returned (.bool true) ∧ Below w.heap.size w w' := by
  obtain ⟨u0, v0, e⟩ := pt_cells hc
  rw [e]
  clear e hc
  have b1 := fun W => between_any u0 (-90000) 90000 W (by omega) (by omega) (by omega) (by omega)
  have b2 := fun W => between_any v0 (-90000) 90000 W (by omega) (by omega) (by omega) (by omega)
  have b3 := fun W => between_any a1 0 3000 W (by omega) (by omega) (by omega) (by omega)
  have b4 := fun W => between_any a2 1 3000 W (by omega) (by omega) (by omega) (by omega)
  have b5 := fun W => between_any a3 4 600 W (by omega) (by omega) (by omega) (by omega)
  have hu := between_bd u0 (-90000) 90000 (by omega)
  have hv := between_bd v0 (-90000) 90000 (by omega)
  have hr := between_bd a1 0 3000 (by omega)
  have hd := between_bd a2 1 3000 (by omega)
  have hs := between_bd a3 4 600 (by omega)
  generalize -90000 + u0 % (90000 - -90000 + 1) = u at *
  generalize -90000 + v0 % (90000 - -90000 + 1) = v at *
  generalize 0 + a1 % (3000 - 0 + 1) = wd at *
  generalize 1 + a2 % (3000 - 1 + 1) = dp at *
  generalize 4 + a3 % (600 - 4 + 1) = s at *
  obtain ⟨hu1, hu2⟩ := hu
  obtain ⟨hv1, hv2⟩ := hv
  obtain ⟨hr1, hr2⟩ := hr
  obtain ⟨hd1, hd2⟩ := hd
  obtain ⟨hs1, hs2⟩ := hs
  have B1 := Lib.hid b1
  have B2 := Lib.hid b2
  have B3 := Lib.hid b3
  have B4 := Lib.hid b4
  have B5 := Lib.hid b5
  clear b1 b2 b3 b4 b5
  have hsz : 1 ≤ mxx wd dp ∧ mxx wd dp ≤ 3000 ∧ wd ≤ mxx wd dp ∧ dp ≤ mxx wd dp := by unfold mxx; split <;> omega
  obtain ⟨z1, z2, z3, z4⟩ := hsz
  have hN : rgN (mxx wd dp) s ≤ 750 := rgN_le (by omega) (by omega) (by omega)
  have hpos := rgN_pos (show 1 ≤ mxx wd dp by omega) (show 1 ≤ s by omega)
  have hrect := fun W => rect_any u v wd dp s W
  rw [rectR_ok ⟨by omega, by omega, by omega, by omega, by omega, by omega, ⟨by omega, by omega⟩, by omega, by omega⟩ (by omega)] at hrect
  dsimp only at hrect
  have DA := Lib.hid (dist_of (wd := wd) (size := mxx wd dp) (step := s) (by omega) (by omega) (by omega) (by omega))
  have DB := Lib.hid (dist_of (wd := dp) (size := mxx wd dp) (step := s) (by omega) (by omega) (by omega) (by omega))
  have LA := Lib.hid (fun i h => rectL_at (cu := u) (cw := v) (wd := wd) (dp := dp) (step := s) (i := i) h)
  have LL := Lib.hid (rectL_last u v wd dp s)
  have hlen := rectL_len u v wd dp s
  have hpl := plain_rect u v wd dp s
  generalize rectL u v wd dp s = L at *
  generalize rgN (mxx wd dp) s = N at *
  obtain ⟨A, eA⟩ : ∃ A : Nat → Int, (fun k => hlf wd (mxx wd dp) (ring (mxx wd dp) s k)) = A := ⟨_, rfl⟩
  obtain ⟨B, eB⟩ : ∃ A : Nat → Int, (fun k => hlf dp (mxx wd dp) (ring (mxx wd dp) s k)) = A := ⟨_, rfl⟩
  have LA' : ∀ i, i < 5 * N → L[i]? = some (lineL (u + pu (A (i / 5)) (i % 5)) (v + pw (B (i / 5)) (i % 5))) := by subst eA eB; exact LA.out
  rw [eA] at DA
  rw [eB] at DB
  clear LA eA eB z1 z2 z3 z4
  have LA := Lib.hid LA'
  have HPL := Lib.hid hpl
  clear LA' hpl
  have HC := Lib.hid hrect
  clear hrect
  go_enter Try.func8, Try.ntmps8
  go_upto_region 1 with fail
  go_cut [] (fun wx => Blk wx w.heap.size 29 #[.int .i64 u, .int .i64 v] ∧ Below w.heap.size w wx)
  case first =>
    have hb := Blk.new w 29 #[.int .i64 u0, .int .i64 v0]
    have bel := (Below.refl w.heap.size w).alloc (Nat.le_refl _) (.cells #[.int .i64 u0, .int .i64 v0] 29)
    go_region_with (first
      | (go_at_call_of 10 (Value.int .i64 u0); refine (B1.out _).mono ?_; rintro e w' ⟨rfl, rfl⟩)
      | (go_at_call_of 10 (Value.int .i64 v0); refine (B2.out _).mono ?_; rintro e w' ⟨rfl, rfl⟩))
    all_goals
      go_wp2_with fail
      go_meet
      exact ⟨(Blk.new w 29 _).drew, ((Below.refl _ _).alloc (Nat.le_refl _) _).drew⟩
  case rest =>
    obtain ⟨hb, bel⟩ := hcut
    have x0 := hb.cell' 0 rfl
    have x1 := hb.cell' 1 rfl
    go_wp2_with (first
      | (go_at_call_of 10 (Value.int .i64 a1); refine (B3.out _).mono ?_; rintro e w' ⟨rfl, rfl⟩)
      | (go_at_call_of 10 (Value.int .i64 a2); refine (B4.out _).mono ?_; rintro e w' ⟨rfl, rfl⟩)
      | (go_at_call_of 10 (Value.int .i64 a3); refine (B5.out _).mono ?_; rintro e w' ⟨rfl, rfl⟩))
    refine (HC.out _).mono ?_
    rintro e w1 ⟨a, c, rfl, own, bel1⟩
    have it := ItemsAt.own own (fun x hx => (HPL.out x hx).1)
    have hb1 := hb.below bel1 hb.lt
    have bf1 := bel.trans (bel1.mono bel.size)
    clear own bel1 hb x0 x1 bel
    have HIT := Lib.hid it
    clear it
    obtain ⟨len, elen⟩ : ∃ n, L.length = n := ⟨_, rfl⟩
    rw [elen] at hlen ⊢
    have hlenA : len ≤ 5 * N + 1 := by omega
    have hlenB : 5 * N + 1 ≤ len := by omega
    clear hlen elen
    go_wp2_with fail
    refine (awake_true _).mono ?_
    rintro e wa ⟨rfl, bela⟩
    have ita := HIT.out.below bela
    have hba := hb1.below bela hb1.lt
    have bfa := bf1.trans (bela.mono bf1.size)
    clear bela hb1 bf1 HIT
    have HITA := Lib.hid ita
    clear ita
    have d1 : decide ((len : Int) < 6) = false := by simp; omega
    have d3 : ((len : Int) % 5 != 1) = false := by simp; omega
    have d4 : ((len : Int) % 5 == 1) = true := by simp; omega
    obtain ⟨b, o, rfl, hbl, _⟩ := HITA.out (5 * N) _ LL.out
    have hall : ∀ i X Y, L[i]? = some (lineL X Y) → LineAt wa b (o + i * 22) X Y := by
      intro i X Y hx
      obtain ⟨b', o', e', _, h⟩ := HITA.out i _ hx
      cases e'
      exact lineAt_of h
    have HALL := Lib.hid hall
    have KEY := Lib.hid (walls_key DA.out DB.out LA.out LL.out hpos (by omega) (by omega))
    have hAe := mmx_end (A := A) hpos
    have hBe := mmx_end (A := B) hpos
    rw [DA.out.2.2] at hAe
    rw [DB.out.2.2] at hBe
    have HAE := Lib.hid hAe
    have HBE := Lib.hid hBe
    have hwa := hba.lt
    clear HITA hall hAe hBe
    go_wp2_with fail
    go_loopw [11, 12, 13] (fun s11 s12 s13 wr => ∃ i : Nat, i ≤ len ∧ s11 = .int .i64 (mmx A N i) ∧ s12 = .int .i64 (mmx B N i) ∧ s13 = .int .i64 i ∧ Below wa.heap.size wa wr)
      (fun _ _ s13 _ => len - (intOf s13).toNat)
    case atStart => exact ⟨0, by omega, rfl, rfl, rfl, Below.refl _ _⟩
    case round =>
      obtain ⟨i, hi, rfl, rfl, rfl, bel⟩ := hrel
      have hbr := hba.below bel hba.lt
      have bfr := bfa.trans (bel.mono bfa.size)
      have hszr := bel.size
      have x0 := hbr.cell' 0 rfl
      have x1 := hbr.cell' 1 rfl
      by_cases hlt : i < len
      · obtain ⟨x, y, hL, ⟨bx1, bx2⟩, ⟨by1, by2⟩, hmx, hmy, hpre⟩ := KEY.out i (by omega)
        obtain ⟨c0, c5, c6, c7⟩ := HALL.out _ _ _ hL
        have k0 := (bel.cell (p := ⟨b, o + i * 22, none⟩) hbl).trans c0
        have k5 := (bel.cell (p := ⟨b, o + i * 22 + 5, none⟩) hbl).trans c5
        have k6 := (bel.cell (p := ⟨b, o + i * 22 + 6, none⟩) hbl).trans c6
        have k7 := (bel.cell (p := ⟨b, o + i * 22 + 7, none⟩) hbl).trans c7
        have hx0 : u + x - u = x := by omega
        have hy0 : v + y - v = y := by omega
        have wx : IntKind.i64.wrap x = x := by rw [IntKind.wrap_i64]; omega
        have wy : IntKind.i64.wrap y = y := by rw [IntKind.wrap_i64]; omega
        have wx' : IntKind.i64.wrap (-x) = -x := by rw [IntKind.wrap_i64]; omega
        have wy' : IntKind.i64.wrap (-y) = -y := by rw [IntKind.wrap_i64]; omega
        have i1 : (0 : Int) ≤ (i : Int) := by omega
        have i2 : (i : Int) < (len : Int) := by omega
        have i3 : IntKind.i64.wrap ((i : Int) + 1) = (i : Int) + 1 := by rw [IntKind.wrap_i64]; omega
        have HPRE := Lib.hid hpre
        have HMX := Lib.hid hmx
        have HMY := Lib.hid hmy
        clear hL c0 c5 c6 c7 hpre hmx hmy
        go_wp2_with fail
        go_quiet (fail)
        go_upto_region 11 with fail
        go_cut [108] (fun s108 wx => s108 = .bool false ∧ ∃ n, wx = wr.drewN n)
        case first =>
          go_wp2_with fail
          all_goals
            go_meet
            exact ⟨by congr 1; simp <;> omega, _, rfl⟩
        case rest =>
          obtain ⟨rfl, n, rfl⟩ := hcut
          go_upto_region 13 with fail
          go_cut [150] (fun s150 wx => s150 = .bool false ∧ ∃ n, wx = wr.drewN n)
          case first =>
            by_cases hm : 0 < i % 5
            · obtain ⟨x', y', hL', ⟨bx1', bx2'⟩, ⟨by1', by2'⟩, hor⟩ := HPRE.out hm
              obtain ⟨c0, c5, c6, c7⟩ := HALL.out _ _ _ hL'
              have m0 : decide ((0 : Int) < (i : Int) % 5) = true := by simp; omega
              have i4 : (0 : Int) ≤ (i : Int) - 1 := by omega
              have i5 : (i : Int) - 1 < (len : Int) := by omega
              have i6 : ((i : Int) - 1).toNat = i - 1 := by omega
              have i7 : IntKind.i64.wrap ((i : Int) - 1) = (i : Int) - 1 := by rw [IntKind.wrap_i64]; omega
              have i8 : IntKind.i64.wrap ((len : Int) - 1) = (len : Int) - 1 := by rw [IntKind.wrap_i64]; omega
              have m1 : decide ((i : Int) < (len : Int) - 1) = true := by simp; omega
              have k5' := (bel.cell (p := ⟨b, o + (i - 1) * 22 + 5, none⟩) hbl).trans c5
              have k6' := (bel.cell (p := ⟨b, o + (i - 1) * 22 + 6, none⟩) hbl).trans c6
              clear c0 c5 c6 c7 hL' hm
              by_cases hxx : x' = x
              · subst hxx
                go_quiet (fail)
                go_wp2_with fail
                go_meet
                first | exact ⟨rfl, _, rfl⟩ | exact ⟨rfl, drewN_two _ _ _⟩
              · obtain rfl : y' = y := hor.resolve_left hxx
                have hxn : (u + x != u + x') = true := by simp; omega
                go_quiet (fail)
                go_wp2_with fail
                go_meet
                first | exact ⟨rfl, _, rfl⟩ | exact ⟨rfl, drewN_two _ _ _⟩
            · have m0 : decide ((0 : Int) < (i : Int) % 5) = false := by simp; omega
              go_quiet (fail)
              go_wp2_with fail
              go_meet
              first | exact ⟨rfl, _, rfl⟩ | exact ⟨rfl, drewN_two _ _ _⟩
          case rest =>
            obtain ⟨rfl, n, rfl⟩ := hcut
            have hmx := HMX.out
            have hmy := HMY.out
            unfold Mx at hmx hmy
            have hA1 : mmx A N (i + 1) = mmx A N (i + 1) := rfl
            obtain ⟨M1, eM1⟩ : ∃ M, mmx A N (i + 1) = M := ⟨_, rfl⟩
            obtain ⟨M2, eM2⟩ : ∃ M, mmx B N (i + 1) = M := ⟨_, rfl⟩
            rw [eM1] at hmx
            rw [eM2] at hmy
            generalize mmx A N i = m1 at *
            generalize mmx B N i = m2 at *
            have HX := Lib.hid hmx
            have HY := Lib.hid hmy
            have EM1 := Lib.hid eM1
            have EM2 := Lib.hid eM2
            clear hmx hmy HMX HMY eM1 eM2 hA1
            have belx := below_drewN bel n
            go_wp2_with fail
            all_goals
              go_roundw
              case rel =>
                have hmx := HX.out
                have hmy := HY.out
                exact ⟨i + 1, by omega, by rw [EM1.out]; congr 1; omega, by rw [EM2.out]; congr 1; omega, by go_num, belx⟩
              case measure => simp [intOf]; omega
      · obtain rfl : i = 5 * N + 1 := by omega
        obtain rfl : len = 5 * N + 1 := by omega
        obtain ⟨c0, c5, c6, c7⟩ := HALL.out _ _ _ LL.out
        have hq : ∀ j : Nat, wr.cell? ⟨b, o + 5 * N * 22 + j, none⟩ = wa.cell? ⟨b, o + 5 * N * 22 + j, none⟩ := fun j => bel.cell (p := ⟨b, o + 5 * N * 22 + j, none⟩) hbl
        have k5 := (hq 5).trans c5
        have k6 := (hq 6).trans c6
        have k7 := (hq 7).trans c7
        have j1 : (0 : Int) ≤ ((5 * N + 1 : Nat) : Int) - 1 := by omega
        have j2 : ((5 * N + 1 : Nat) : Int) - 1 < ((5 * N + 1 : Nat) : Int) := by omega
        have j3 : (((5 * N + 1 : Nat) : Int) - 1).toNat = 5 * N := by omega
        have j4 : IntKind.i64.wrap (((5 * N + 1 : Nat) : Int) - 1) = ((5 * N + 1 : Nat) : Int) - 1 := by rw [IntKind.wrap_i64]; omega
        rw [HAE.out.2, HBE.out.2]
        generalize 5 * N + 1 = len at *
        clear c0 c5 c6 c7 hq
        go_wp2_with fail
        go_quiet (fail)
        go_wp2_with fail
        go_ret
        exact ⟨rfl, below_drewN bfr _⟩
end Go.Proofs.Ytnbfhdapdlpgiaa

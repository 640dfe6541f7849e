/-
  cnclaw17.CanonJoins: the walk.
-/
import Derived.Test.YtefdjdipbnnoaaaDoorAwake17
import Derived.Test.YtefdjdipbnnoaaaDoorStageF17
import Derived.Test.YtefdjdipbnnoaaaDoorEnd17
import Derived.Test.YtefdjdipbnnoaaaDoorLists17
namespace Go.Proofs.YtefdjdipbnnoaaaDoor
open Go Go.RowKit
set_option linter.unusedVariables false
set_option linter.unusedSimpArgs false


theorem eqv_run (x y z x' y' z' : Int) (W : World) : (binOp .eql 23 (.agg #[.int .i64 x, .int .i64 y, .int .i64 z]) (.agg #[.int .i64 x', .int .i64 y', .int .i64 z'])).run Tryd.prog W = .ok (.bool (eqV x y z x' y' z')) W := by
  go_simp
  simp only [eqV, if_and]
  split
  · rename_i h
    rw [decide_eq_true (by simpa only [and_assoc] using h)]
  · rename_i h
    rw [decide_eq_false (by simpa only [and_assoc] using h)]
theorem anyM_append : ∀ (l m : List It), anyM (l ++ m) = (anyM l || anyM m)
  | [], m => rfl
  | x :: l, m => by show (motK x.kind || anyM (l ++ m)) = _; rw [anyM_append l m, ← Bool.or_assoc]; rfl
attribute [local go_sem] itA_0 itA_1 itA_2 itA_3 itA_4 itA_5 itA_6 itA_7 itA_8 itA_9 itA_10 itA_11 itA_12 itA_13 itA_14 itA_15 itA_16 itA_17 itA_18 itA_19 itA_20 itA_21
set_option maxRecDepth 100000 in
set_option maxHeartbeats 4000000 in
theorem ljoins_walk (a0 : Option Addr) (len0 cap0 : Nat) (z0 : List Int) (a1 : Option Addr) (len1 cap1 : Nat) (z1 : List Int) (a2 : Int) (w : World) (hE : Env w) (k0 : IsRow .i64 w a0 len0 cap0 z0) (hn0 : len0 ≤ 9223372036854775807) (k1 : IsRow .i64 w a1 len1 cap1 z1) (hn1 : len1 ≤ 9223372036854775807) :
    Calls Tryd.prog 7 #[.slice a0 len0 cap0, .slice a1 len1 cap1, .int .i64 a2] w fun e w' => e = .returned (.bool true) ∧ Below w.heap.size w w' := by
  have HE0 := Lib.hid hE
  have hlow := hE.low
  have KL0 := Lib.hid (light_any w a0 len0 cap0)
  have KL1 := Lib.hid (light_any w a1 len1 cap1)
  have KN0 := Lib.hid (tape_new w a0 len0 cap0 z0 k0 hn0)
  have KR1 := Lib.hid k1
  obtain ⟨y0, hy0⟩ : ∃ z, (fun i => z0.getD i 0) = z := ⟨_, rfl⟩
  obtain ⟨y1, hy1⟩ : ∃ z, (fun i => z1.getD i 0) = z := ⟨_, rfl⟩
  have HY1 := Lib.hid hy1
  rw [hy0] at KN0
  clear hE hn0 k0 k1 hy0 hy1
  go_enter Tryd.func7, Tryd.ntmps7
  go_wp2_with fail
  refine KL0.out.mono ?_
  rintro e w' ⟨rfl, rfl⟩
  by_cases h0 : len0 ≤ 120
  rotate_left
  · have d1 : decide (len0 ≤ 120) = false := decide_eq_false h0
    go_wp2_with fail
    refine (awake_true _ HE0.out).mono ?_
    rintro e w1 ⟨rfl, b1⟩
    go_wp2_with fail
    go_ret
    exact ⟨rfl, b1⟩
  have d1 : decide (len0 ≤ 120) = true := decide_eq_true h0
  go_wp2_with fail
  refine KL1.out.mono ?_
  rintro e w' ⟨rfl, rfl⟩
  by_cases h1 : len1 ≤ 120
  rotate_left
  · have d2 : decide (len1 ≤ 120) = false := decide_eq_false h1
    go_wp2_with fail
    refine (awake_true _ HE0.out).mono ?_
    rintro e w1 ⟨rfl, b1⟩
    go_wp2_with fail
    go_ret
    exact ⟨rfl, b1⟩
  have d2 : decide (len1 ≤ 120) = true := decide_eq_true h1
  go_wp2_with fail
  refine KN0.out.mono ?_
  rintro e w1 ⟨rfl, hs1, b1⟩
  have sz1 := b1.size
  have B1 := Lib.hid b1
  have S1 := Lib.hid hs1
  have l1 := hs1.lt
  clear hs1 b1 KL0 KL1 KN0
  go_wp2_with fail
  refine (sitems_any w1 w.heap.size w.heap.size a0 len0 cap0 y0 ⟨0, S1.out⟩).mono ?_
  rintro e w2 ⟨v2, L, p, rfl, hgood, hL8, hown, G2⟩
  obtain ⟨a5, c5, rfl, hat, hno⟩ := its_own hown
  have B2 : Below w.heap.size w w2 := B1.out.trans (below_of_grown G2.gr (by omega) (fun k e => by injection e; omega))
  have sz2 := B2.size
  have B2 := Lib.hid B2
  have HAT := Lib.hid hat
  have HNO := Lib.hid hno
  have HGOOD := Lib.hid hgood
  have HOWN := Lib.hid hown
  clear hat hno hgood hown G2 S1 B1 l1 sz1
  have KN1 := tape_new w2 a1 len1 cap1 z1 (KR1.out.below B2.out) hn1
  rw [HY1.out] at KN1
  have KN1 := Lib.hid KN1
  go_wp2_with fail
  refine KN1.out.mono ?_
  rintro e w3 ⟨rfl, hs3, b3⟩
  have sz3 := b3.size
  have B3 := Lib.hid b3
  have S3 := Lib.hid hs3
  have l3 := hs3.lt
  clear hs3 b3 KN1
  go_wp2_with fail
  refine (sitems_any w3 w2.heap.size w2.heap.size a1 len1 cap1 y1 ⟨0, S3.out⟩).mono ?_
  rintro e w4 ⟨v4, M, p', rfl, hgood', hM8, hown', G4⟩
  obtain ⟨a7, c7, rfl, hat', hno'⟩ := its_own hown'
  have b4 : Below w2.heap.size w2 w4 := B3.out.trans (below_of_grown G4.gr (by omega) (fun k e => by injection e; omega))
  have HAT4 := Lib.hid (HAT.out.below b4)
  have B4 := Lib.hid (B2.out.trans (b4.mono sz2))
  have sz4 := B4.out.size
  have HATM := Lib.hid hat'
  have HNOM := Lib.hid hno'
  have HGOODM := Lib.hid hgood'
  have HCA := Lib.hid (checkL_good HGOOD.out (by omega))
  have HCB := Lib.hid (checkL_good HGOODM.out (by omega))
  clear hat' hno' hgood' hown' G4 S3 B3 l3 sz3 b4 HAT
  have KC1 := check_any a5 c5 L w4 HAT4.out (by omega)
  rw [HCA.out] at KC1
  have KC1 := Lib.hid KC1
  go_wp2_with fail
  refine KC1.out.mono ?_
  rintro e w5 ⟨rfl, b5⟩
  have B5 := Lib.hid b5
  have KC2 := check_any a7 c7 M w5 (HATM.out.below b5) (by omega)
  rw [HCB.out] at KC2
  have KC2 := Lib.hid KC2
  clear b5 KC1
  go_wp2_with fail
  refine KC2.out.mono ?_
  rintro e w6 ⟨rfl, b6⟩
  have B6 := Lib.hid (B5.out.trans (b6.mono B5.out.size))
  clear b6 KC2 B5
  have B6w := Lib.hid (B4.out.trans (B6.out.mono sz4))
  go_wp2_with fail
  refine (awake_true _ (HE0.out.below B6w.out hlow)).mono ?_
  rintro e w7 ⟨rfl, b7⟩
  have B7 := Lib.hid (B6.out.trans (b7.mono B6.out.size))
  clear b7 B6 B6w
  have hmd := mod_any a2 ((L.length : Int) + 1) w7 (by omega) (by omega)
  have hr1 := Int.emod_nonneg a2 (show ((L.length : Int) + 1) ≠ 0 by omega)
  have hr2 := Int.emod_lt_of_pos a2 (show (0 : Int) < (L.length : Int) + 1 by omega)
  obtain ⟨k, hk⟩ : ∃ k : Nat, a2 % ((L.length : Int) + 1) = (k : Int) := ⟨(a2 % ((L.length : Int) + 1)).toNat, by omega⟩
  rw [hk] at hmd hr1 hr2
  have hkl : k ≤ L.length := by omega
  have KM := Lib.hid hmd
  clear hk hr1 hr2 hmd
  have dL : ((L.length : Int) != (L.length : Int)) = false := by simp
  go_wp2_with fail
  refine KM.out.mono ?_
  rintro e w8 ⟨rfl, rfl⟩
  clear KM
  have HAT8 := Lib.hid (HAT4.out.below B7.out)
  have htl : (L.take k).length = k := by rw [List.length_take]; omega
  have KC3 := check_any a5 c5 (L.take k) w7 (HAT8.out.take k) (by omega)
  rw [checkL_good (HGOOD.out.take k) (by omega), htl] at KC3
  have KC3 := Lib.hid KC3
  have hform := its_form3 HOWN.out
  have hc5 : L.length ≤ c5 := by rcases hform with ⟨_, e0, _⟩ | ⟨_, _, h, _⟩ <;> omega
  have HS1 := Lib.hid (its_hi (len := L.length) (c := c5) (k := k) (by rcases hform with ⟨e, _, _⟩ | ⟨g, e, _, _⟩; exact .inl e; exact .inr ⟨g, e⟩) (by omega))
  obtain ⟨ad, hs2, hd⟩ := its_lo hform hkl
  have HS2 := Lib.hid hs2
  have HDR := Lib.hid hd
  clear htl hform hs2 hd
  go_wp2_with (first
    | ((with_reducible refine go_slice 37 (.tmp 73) none (some (.tmp 74)) (.slice a5 k c5) (by with_unfolding_all exact HS1.out _) ?_)))
  refine KC3.out.mono ?_
  rintro e w8 ⟨rfl, b8⟩
  have B8 := Lib.hid (B7.out.trans (b8.mono B7.out.size))
  have HAT9 := Lib.hid (HAT8.out.below b8)
  clear b8 KC3 HAT8
  have hdl : (L.drop k).length = L.length - k := by rw [List.length_drop]
  have KC4 := check_any ad (c5 - k) (L.drop k) w8 (HDR.out _ HAT9.out) (by omega)
  rw [checkL_good (HGOOD.out.drop k) (by omega), hdl] at KC4
  have KC4 := Lib.hid KC4
  clear hdl
  go_wp2_with (first
    | ((with_reducible refine go_slice 37 (.tmp 80) (some (.tmp 81)) none (.slice ad (L.length - k) (c5 - k)) (by with_unfolding_all exact HS2.out _) ?_)))
  refine KC4.out.mono ?_
  rintro e w9 ⟨rfl, b9⟩
  have B9 := Lib.hid (B8.out.trans (b9.mono B8.out.size))
  have HATL := Lib.hid (HAT9.out.below b9)
  clear b9 KC4 HAT9 HS1 HS2 HDR
  obtain ⟨fx, fy, fz, hfst⟩ : ∃ fx fy fz, walkAt (0, 0, 0) L = (fx, fy, fz) := ⟨_, _, _, rfl⟩
  have KE := cend_any a5 c5 L (0, 0, 0) w9 HATL.out (by omega)
  rw [hfst] at KE
  have HFST := Lib.hid hfst
  have KE : Calls Tryd.prog 26 #[.slice a5 L.length c5, .agg #[.int .i64 0, .int .i64 0, .int .i64 0]] w9 fun e w' => e = .returned (.agg #[.int .i64 fx, .int .i64 fy, .int .i64 fz]) ∧ Below w9.heap.size w9 w' := KE
  have KE := Lib.hid KE
  clear hfst
  go_wp2_with fail
  refine KE.out.mono ?_
  rintro e w10 ⟨rfl, b10⟩
  have B10 := Lib.hid (B9.out.trans (b10.mono B9.out.size))
  clear b10 KE HATL B9 B8 B7
  have sz10 := B10.out.size
  go_wp2_with fail
  go_loopw [21, 22] (fun s21 s22 wr => ∃ (i : Nat) (bg : Bool) (st : V3), i ≤ M.length ∧ s22 = .int .i64 i ∧ s21 = .bool bg ∧ (bg = false → firstM (M.drop i) = firstM M) ∧ (bg = true → firstM M = some st) ∧ Blk wr (w10.heap.size + 1) 23 #[.int .i64 st.1, .int .i64 st.2.1, .int .i64 st.2.2] ∧ Blk wr w10.heap.size 23 #[.int .i64 fx, .int .i64 fy, .int .i64 fz] ∧ Below w4.heap.size w4 wr)
    (fun _ s22 _ => M.length - (intOf s22).toNat)
  case atStart => exact ⟨0, false, (0, 0, 0), by omega, rfl, rfl, fun _ => rfl, by simp, blk_new1 _ _ _ _, (Blk.new _ _ _).alloc _, (B10.out.alloc sz10 _).alloc (by simp; omega) _⟩
  case round =>
    obtain ⟨i, bg, st, hi, rfl, rfl, hb0, hb1, hst, hfs, bw⟩ := hrel
    have HS := Lib.hid hst
    have HF := Lib.hid hfs
    have BW := Lib.hid bw
    have lF := hfs.lt
    have lG := hst.lt
    have HB0 := Lib.hid hb0
    have HB1 := Lib.hid hb1
    clear hst hfs bw hb0 hb1 B10
    by_cases hil : i < M.length
    · have d3 : decide (i < M.length) = true := decide_eq_true hil
      cases bg
      · obtain ⟨x, hx⟩ : ∃ x, M[i]? = some x := ⟨_, List.getElem?_eq_getElem hil⟩
        obtain ⟨b, o, rfl, _, hc⟩ := (HATM.out.below BW.out) i x hx
        have c0 := hc 0 _ rfl
        have c2 := hc 2 _ rfl
        have c3 := hc 3 _ rfl
        have c4 := hc 4 _ rfl
        simp only [Nat.add_zero] at c0
        have i1 : (0 : Int) ≤ (i : Int) := by omega
        have i2 : (i : Int) < (M.length : Int) := by omega
        have KM := Lib.hid (motionK_any x.kind wr)
        have HDR := Lib.hid (show firstM M = if motK x.kind = true then some x.from3 else firstM (M.drop (i + 1)) by rw [← HB0.out rfl, drop_at hx]; rfl)
        obtain ⟨mt, hmt⟩ : ∃ b, motK x.kind = b := ⟨_, rfl⟩
        rw [hmt] at KM HDR
        have q0 := HS.out.cell' 0 rfl
        have q1 := HS.out.cell' 1 rfl
        have q2 := HS.out.cell' 2 rfl
        have f0 := HS.out.frozen 0
        have f1 := HS.out.frozen 1
        have f2 := HS.out.frozen 2
        clear hx hc hmt
        go_wp2_with fail
        refine KM.out.mono ?_
        rintro e w' ⟨rfl, rfl⟩
        cases mt
        · go_wp2_with fail
          go_roundw
          case rel => exact ⟨i + 1, false, st, by omega, by go_num, rfl, fun _ => by have := HDR.out; simpa using this.symm, by simp, HS.out, HF.out, BW.out⟩
          case measure => simp [intOf] <;> omega
        · go_wp2_with fail
          go_roundw
          case rel => exact ⟨i + 1, true, x.from3, by omega, by go_num, rfl, by simp, fun _ => by have := HDR.out; simpa using this, ((HS.out.put 0 _).put 1 _).put 2 _, Blk.skip (Blk.skip (Blk.skip HF.out (by show w10.heap.size ≠ w10.heap.size + 1; omega) _) (by show w10.heap.size ≠ w10.heap.size + 1; omega) _) (by show w10.heap.size ≠ w10.heap.size + 1; omega) _, ((BW.out.setCell (by show w4.heap.size ≤ w10.heap.size + 1; omega) _).setCell (by show w4.heap.size ≤ w10.heap.size + 1; omega) _).setCell (by show w4.heap.size ≤ w10.heap.size + 1; omega) _⟩
          case measure => simp [intOf] <;> omega
      · have HFM := Lib.hid (HB1.out rfl)
        clear HB0 HB1
        obtain ⟨sx, sy, sk⟩ := st
        have HS : Hid (Blk wr (w10.heap.size + 1) 23 #[.int .i64 sx, .int .i64 sy, .int .i64 sk]) := HS
        go_wp2_with fail
        go_loopw [20, 23] (fun s20 s23 wr => ∃ (i : Nat), i ≤ L.length ∧ s23 = .int .i64 i ∧ s20 = .bool (anyM (L.take i)) ∧ Blk wr (w10.heap.size + 1) 23 #[.int .i64 sx, .int .i64 sy, .int .i64 sk] ∧ Blk wr w10.heap.size 23 #[.int .i64 fx, .int .i64 fy, .int .i64 fz] ∧ Below w4.heap.size w4 wr)
          (fun _ s23 _ => L.length - (intOf s23).toNat)
        case atStart => exact ⟨0, by omega, rfl, rfl, HS.out, HF.out, BW.out⟩
        case round =>
          obtain ⟨i, hi, rfl, rfl, hst, hfs, bw⟩ := hrel
          have HS2 := Lib.hid hst
          have HF2 := Lib.hid hfs
          have BW2 := Lib.hid bw
          have lF := hfs.lt
          have lG := hst.lt
          clear hst hfs bw HS HF BW
          obtain ⟨mv, hmv⟩ : ∃ b, anyM (L.take i) = b := ⟨_, rfl⟩
          have HMV := Lib.hid hmv
          rw [hmv]
          clear hmv
          by_cases hil : i < L.length
          · obtain ⟨x, hx⟩ : ∃ x, L[i]? = some x := ⟨_, List.getElem?_eq_getElem hil⟩
            obtain ⟨b, o, rfl, _, hc⟩ := (HAT4.out.below BW2.out) i x hx
            have c0 := hc 0 _ rfl
            simp only [Nat.add_zero] at c0
            have d3 : decide (i < L.length) = true := decide_eq_true hil
            have i1 : (0 : Int) ≤ (i : Int) := by omega
            have i2 : (i : Int) < (L.length : Int) := by omega
            have HTK := Lib.hid (show anyM (L.take (i + 1)) = (anyM (L.take i) || motK x.kind) by rw [take_snoc hx, anyM_append]; show (anyM (L.take i) || (motK x.kind || false)) = _; rw [Bool.or_false])
            have KM := Lib.hid (motionK_any x.kind wr)
            obtain ⟨mt, hmt⟩ : ∃ b, motK x.kind = b := ⟨_, rfl⟩
            rw [hmt] at KM HTK
            rw [HMV.out] at HTK
            clear hx hc hmt
            cases mv
            · go_wp2_with fail
              refine KM.out.mono ?_
              rintro e w' ⟨rfl, rfl⟩
              go_wp2_with fail
              go_roundw
              case rel => exact ⟨i + 1, by omega, by go_num, by rw [HTK.out]; first | done | (cases mt <;> rfl), HS2.out, HF2.out, BW2.out⟩
              case measure => simp [intOf] <;> omega
            · go_wp2_with fail
              go_roundw
              case rel => exact ⟨i + 1, by omega, by go_num, by rw [HTK.out]; first | done | (cases mt <;> rfl), HS2.out, HF2.out, BW2.out⟩
              case measure => simp [intOf] <;> omega
          · obtain rfl : i = L.length := by omega
            have d3 : decide (L.length < L.length) = false := by simp
            rw [List.take_length] at HMV
            have BX := Lib.hid (B4.out.trans (BW2.out.mono sz4))
            have hwr : w4.heap.size ≤ wr.heap.size := BW2.out.size
            clear hil
            go_wp2_with (first
              | ((with_reducible refine go_itcopy (.tmp 127) (.tmp 128) wr.heap.size a5 c5 L (by with_unfolding_all rfl) (by with_unfolding_all exact Blk.new wr _ _) (by with_unfolding_all rfl) HNO.out ((HAT4.out.below BW2.out).below ((Below.refl _ _).alloc (Nat.le_refl _) _)) (by omega) ?_); intro v5 w5 hown5 hgrow; have b5 := Lib.hid (((Below.refl wr.heap.size wr).alloc (Nat.le_refl _) (.cells #[] 25)).trans (below_of_grown hgrow (by simp) (by intro k hk; injection hk; omega))); have HO5 := Lib.hid hown5; have sz5 := b5.out.size; clear hown5 hgrow)
              | ((with_reducible refine go_itsapp (.tmp 129) (.tmp 130) L a7 c7 M (by with_unfolding_all rfl) HO5.out (by with_unfolding_all rfl) HNOM.out ((HATM.out.below BW2.out).below b5.out) (by omega) sz5 ?_); intro v6 w6 hown6 hgrow; have b6 := Lib.hid (b5.out.trans (below_of_grown hgrow (by omega) (fun k e => (HO5.out.lt k e).1))); obtain ⟨a8, c8, rfl, hat8, _⟩ := its_own hown6; have HAT8 := Lib.hid hat8; clear hown6 hgrow hat8))
            have hlm : (L ++ M).length ≤ 9223372036854775807 := by rw [List.length_append]; omega
            have KC5 := check_any a8 c8 (L ++ M) w6 HAT8.out hlm
            obtain ⟨q1, hq1⟩ : ∃ q : Int, ((checkL (L ++ M)).1 : Int) = q := ⟨_, rfl⟩
            obtain ⟨q2, hq2⟩ : ∃ q : Int, (checkL (L ++ M)).2 = q := ⟨_, rfl⟩
            rw [hq1, hq2, List.length_append] at KC5
            have hlaw := join_law HGOOD.out HGOODM.out (by omega)
            rw [hq2, HMV.out, HFM.out, HFST.out] at hlaw
            have LAW := Lib.hid hlaw
            have HS6 := Lib.hid (HS2.out.below b6.out lG)
            have HF6 := Lib.hid (HF2.out.below b6.out lF)
            have BX6 := Lib.hid (BX.out.trans (b6.out.mono BX.out.size))
            have l6 : w6.heap.size ≥ wr.heap.size := b6.out.size
            clear hq1 hq2 hlaw HS2 HF2 BW2 BX b5 b6 HAT8 HO5
            with_reducible refine KC5.mono ?_
            rintro e w7 ⟨rfl, b7⟩
            have HS7 := Lib.hid (HS6.out.below b7 HS6.out.lt)
            have HF7 := Lib.hid (HF6.out.below b7 HF6.out.lt)
            have BEL := Lib.hid (BX6.out.trans (b7.mono BX6.out.size))
            have s0 := HS7.out.cell' 0 rfl
            have s1 := HS7.out.cell' 1 rfl
            have s2 := HS7.out.cell' 2 rfl
            have t0 := HF7.out.cell' 0 rfl
            have t1 := HF7.out.cell' 1 rfl
            have t2 := HF7.out.cell' 2 rfl
            clear b7 KC5 HS6 HF6 BX6
            cases mv
            · obtain rfl : q2 = 0 := LAW.out.2 (.inl rfl)
              go_wp2_with fail
              go_ret
              exact ⟨rfl, BEL.out⟩
            · have NR := fun W => eqv_run sx sy sk fx fy fz W
              by_cases he : sx = fx ∧ sy = fy ∧ sk = fz
              · obtain rfl : q2 = 0 := LAW.out.2 (.inr (.inr (by rw [he.1, he.2.1, he.2.2])))
                have ev : eqV sx sy sk fx fy fz = true := decide_eq_true he
                rw [ev] at NR
                have NR := Lib.hid NR
                clear he ev
                go_wp2_with ((with_reducible refine gd_eql 23 _ (.tmp 151) (.tmp 152) #[.int .i64 sx, .int .i64 sy, .int .i64 sk] #[.int .i64 fx, .int .i64 fy, .int .i64 fz] true (by with_unfolding_all rfl) rfl rfl (by kernel_rfl) (NR.out _) ?_))
                go_ret
                exact ⟨rfl, BEL.out⟩
              · have hq : (q2 == 0) = false := beq_eq_false_iff_ne.2 (fun h => by
                  rcases LAW.out.1 h with h | h | h
                  · cases h
                  · cases h
                  · injection h with h
                    injection h with h1 h
                    injection h with h2 h3
                    exact he ⟨h1, h2, h3⟩)
                have ev : eqV sx sy sk fx fy fz = false := decide_eq_false he
                rw [ev] at NR
                have NR := Lib.hid NR
                clear he ev
                go_wp2_with ((with_reducible refine gd_eql 23 _ (.tmp 151) (.tmp 152) #[.int .i64 sx, .int .i64 sy, .int .i64 sk] #[.int .i64 fx, .int .i64 fy, .int .i64 fz] false (by with_unfolding_all rfl) rfl rfl (by kernel_rfl) (NR.out _) ?_))
                go_ret
                exact ⟨rfl, BEL.out⟩
    · have d3 : decide (i < M.length) = false := decide_eq_false hil
      obtain rfl : i = M.length := by omega
      clear hil
      cases bg
      · have HFM := Lib.hid (show firstM M = none by rw [← HB0.out rfl, List.drop_length]; rfl)
        clear HB0 HB1
        obtain ⟨sx, sy, sk⟩ := st
        have HS : Hid (Blk wr (w10.heap.size + 1) 23 #[.int .i64 sx, .int .i64 sy, .int .i64 sk]) := HS
        go_wp2_with fail
        go_loopw [20, 23] (fun s20 s23 wr => ∃ (i : Nat), i ≤ L.length ∧ s23 = .int .i64 i ∧ s20 = .bool (anyM (L.take i)) ∧ Blk wr (w10.heap.size + 1) 23 #[.int .i64 sx, .int .i64 sy, .int .i64 sk] ∧ Blk wr w10.heap.size 23 #[.int .i64 fx, .int .i64 fy, .int .i64 fz] ∧ Below w4.heap.size w4 wr)
          (fun _ s23 _ => L.length - (intOf s23).toNat)
        case atStart => exact ⟨0, by omega, rfl, rfl, HS.out, HF.out, BW.out⟩
        case round =>
          obtain ⟨i, hi, rfl, rfl, hst, hfs, bw⟩ := hrel
          have HS2 := Lib.hid hst
          have HF2 := Lib.hid hfs
          have BW2 := Lib.hid bw
          have lF := hfs.lt
          have lG := hst.lt
          clear hst hfs bw HS HF BW
          obtain ⟨mv, hmv⟩ : ∃ b, anyM (L.take i) = b := ⟨_, rfl⟩
          have HMV := Lib.hid hmv
          rw [hmv]
          clear hmv
          by_cases hil : i < L.length
          · obtain ⟨x, hx⟩ : ∃ x, L[i]? = some x := ⟨_, List.getElem?_eq_getElem hil⟩
            obtain ⟨b, o, rfl, _, hc⟩ := (HAT4.out.below BW2.out) i x hx
            have c0 := hc 0 _ rfl
            simp only [Nat.add_zero] at c0
            have d3 : decide (i < L.length) = true := decide_eq_true hil
            have i1 : (0 : Int) ≤ (i : Int) := by omega
            have i2 : (i : Int) < (L.length : Int) := by omega
            have HTK := Lib.hid (show anyM (L.take (i + 1)) = (anyM (L.take i) || motK x.kind) by rw [take_snoc hx, anyM_append]; show (anyM (L.take i) || (motK x.kind || false)) = _; rw [Bool.or_false])
            have KM := Lib.hid (motionK_any x.kind wr)
            obtain ⟨mt, hmt⟩ : ∃ b, motK x.kind = b := ⟨_, rfl⟩
            rw [hmt] at KM HTK
            rw [HMV.out] at HTK
            clear hx hc hmt
            cases mv
            · go_wp2_with fail
              refine KM.out.mono ?_
              rintro e w' ⟨rfl, rfl⟩
              go_wp2_with fail
              go_roundw
              case rel => exact ⟨i + 1, by omega, by go_num, by rw [HTK.out]; first | done | (cases mt <;> rfl), HS2.out, HF2.out, BW2.out⟩
              case measure => simp [intOf] <;> omega
            · go_wp2_with fail
              go_roundw
              case rel => exact ⟨i + 1, by omega, by go_num, by rw [HTK.out]; first | done | (cases mt <;> rfl), HS2.out, HF2.out, BW2.out⟩
              case measure => simp [intOf] <;> omega
          · obtain rfl : i = L.length := by omega
            have d3 : decide (L.length < L.length) = false := by simp
            rw [List.take_length] at HMV
            have BX := Lib.hid (B4.out.trans (BW2.out.mono sz4))
            have hwr : w4.heap.size ≤ wr.heap.size := BW2.out.size
            clear hil
            go_wp2_with (first
              | ((with_reducible refine go_itcopy (.tmp 127) (.tmp 128) wr.heap.size a5 c5 L (by with_unfolding_all rfl) (by with_unfolding_all exact Blk.new wr _ _) (by with_unfolding_all rfl) HNO.out ((HAT4.out.below BW2.out).below ((Below.refl _ _).alloc (Nat.le_refl _) _)) (by omega) ?_); intro v5 w5 hown5 hgrow; have b5 := Lib.hid (((Below.refl wr.heap.size wr).alloc (Nat.le_refl _) (.cells #[] 25)).trans (below_of_grown hgrow (by simp) (by intro k hk; injection hk; omega))); have HO5 := Lib.hid hown5; have sz5 := b5.out.size; clear hown5 hgrow)
              | ((with_reducible refine go_itsapp (.tmp 129) (.tmp 130) L a7 c7 M (by with_unfolding_all rfl) HO5.out (by with_unfolding_all rfl) HNOM.out ((HATM.out.below BW2.out).below b5.out) (by omega) sz5 ?_); intro v6 w6 hown6 hgrow; have b6 := Lib.hid (b5.out.trans (below_of_grown hgrow (by omega) (fun k e => (HO5.out.lt k e).1))); obtain ⟨a8, c8, rfl, hat8, _⟩ := its_own hown6; have HAT8 := Lib.hid hat8; clear hown6 hgrow hat8))
            have hlm : (L ++ M).length ≤ 9223372036854775807 := by rw [List.length_append]; omega
            have KC5 := check_any a8 c8 (L ++ M) w6 HAT8.out hlm
            obtain ⟨q1, hq1⟩ : ∃ q : Int, ((checkL (L ++ M)).1 : Int) = q := ⟨_, rfl⟩
            obtain ⟨q2, hq2⟩ : ∃ q : Int, (checkL (L ++ M)).2 = q := ⟨_, rfl⟩
            rw [hq1, hq2, List.length_append] at KC5
            have hlaw := join_law HGOOD.out HGOODM.out (by omega)
            rw [hq2, HMV.out, HFM.out, HFST.out] at hlaw
            have LAW := Lib.hid hlaw
            have HS6 := Lib.hid (HS2.out.below b6.out lG)
            have HF6 := Lib.hid (HF2.out.below b6.out lF)
            have BX6 := Lib.hid (BX.out.trans (b6.out.mono BX.out.size))
            have l6 : w6.heap.size ≥ wr.heap.size := b6.out.size
            clear hq1 hq2 hlaw HS2 HF2 BW2 BX b5 b6 HAT8 HO5
            with_reducible refine KC5.mono ?_
            rintro e w7 ⟨rfl, b7⟩
            have HS7 := Lib.hid (HS6.out.below b7 HS6.out.lt)
            have HF7 := Lib.hid (HF6.out.below b7 HF6.out.lt)
            have BEL := Lib.hid (BX6.out.trans (b7.mono BX6.out.size))
            have s0 := HS7.out.cell' 0 rfl
            have s1 := HS7.out.cell' 1 rfl
            have s2 := HS7.out.cell' 2 rfl
            have t0 := HF7.out.cell' 0 rfl
            have t1 := HF7.out.cell' 1 rfl
            have t2 := HF7.out.cell' 2 rfl
            clear b7 KC5 HS6 HF6 BX6
            cases mv
            · obtain rfl : q2 = 0 := LAW.out.2 (.inl rfl)
              go_wp2_with fail
              go_ret
              exact ⟨rfl, BEL.out⟩
            · obtain rfl : q2 = 0 := LAW.out.2 (.inr (.inl rfl))
              go_wp2_with fail
              go_ret
              exact ⟨rfl, BEL.out⟩
      · have HFM := Lib.hid (HB1.out rfl)
        clear HB0 HB1
        obtain ⟨sx, sy, sk⟩ := st
        have HS : Hid (Blk wr (w10.heap.size + 1) 23 #[.int .i64 sx, .int .i64 sy, .int .i64 sk]) := HS
        go_wp2_with fail
        go_loopw [20, 23] (fun s20 s23 wr => ∃ (i : Nat), i ≤ L.length ∧ s23 = .int .i64 i ∧ s20 = .bool (anyM (L.take i)) ∧ Blk wr (w10.heap.size + 1) 23 #[.int .i64 sx, .int .i64 sy, .int .i64 sk] ∧ Blk wr w10.heap.size 23 #[.int .i64 fx, .int .i64 fy, .int .i64 fz] ∧ Below w4.heap.size w4 wr)
          (fun _ s23 _ => L.length - (intOf s23).toNat)
        case atStart => exact ⟨0, by omega, rfl, rfl, HS.out, HF.out, BW.out⟩
        case round =>
          obtain ⟨i, hi, rfl, rfl, hst, hfs, bw⟩ := hrel
          have HS2 := Lib.hid hst
          have HF2 := Lib.hid hfs
          have BW2 := Lib.hid bw
          have lF := hfs.lt
          have lG := hst.lt
          clear hst hfs bw HS HF BW
          obtain ⟨mv, hmv⟩ : ∃ b, anyM (L.take i) = b := ⟨_, rfl⟩
          have HMV := Lib.hid hmv
          rw [hmv]
          clear hmv
          by_cases hil : i < L.length
          · obtain ⟨x, hx⟩ : ∃ x, L[i]? = some x := ⟨_, List.getElem?_eq_getElem hil⟩
            obtain ⟨b, o, rfl, _, hc⟩ := (HAT4.out.below BW2.out) i x hx
            have c0 := hc 0 _ rfl
            simp only [Nat.add_zero] at c0
            have d3 : decide (i < L.length) = true := decide_eq_true hil
            have i1 : (0 : Int) ≤ (i : Int) := by omega
            have i2 : (i : Int) < (L.length : Int) := by omega
            have HTK := Lib.hid (show anyM (L.take (i + 1)) = (anyM (L.take i) || motK x.kind) by rw [take_snoc hx, anyM_append]; show (anyM (L.take i) || (motK x.kind || false)) = _; rw [Bool.or_false])
            have KM := Lib.hid (motionK_any x.kind wr)
            obtain ⟨mt, hmt⟩ : ∃ b, motK x.kind = b := ⟨_, rfl⟩
            rw [hmt] at KM HTK
            rw [HMV.out] at HTK
            clear hx hc hmt
            cases mv
            · go_wp2_with fail
              refine KM.out.mono ?_
              rintro e w' ⟨rfl, rfl⟩
              go_wp2_with fail
              go_roundw
              case rel => exact ⟨i + 1, by omega, by go_num, by rw [HTK.out]; first | done | (cases mt <;> rfl), HS2.out, HF2.out, BW2.out⟩
              case measure => simp [intOf] <;> omega
            · go_wp2_with fail
              go_roundw
              case rel => exact ⟨i + 1, by omega, by go_num, by rw [HTK.out]; first | done | (cases mt <;> rfl), HS2.out, HF2.out, BW2.out⟩
              case measure => simp [intOf] <;> omega
          · obtain rfl : i = L.length := by omega
            have d3 : decide (L.length < L.length) = false := by simp
            rw [List.take_length] at HMV
            have BX := Lib.hid (B4.out.trans (BW2.out.mono sz4))
            have hwr : w4.heap.size ≤ wr.heap.size := BW2.out.size
            clear hil
            go_wp2_with (first
              | ((with_reducible refine go_itcopy (.tmp 127) (.tmp 128) wr.heap.size a5 c5 L (by with_unfolding_all rfl) (by with_unfolding_all exact Blk.new wr _ _) (by with_unfolding_all rfl) HNO.out ((HAT4.out.below BW2.out).below ((Below.refl _ _).alloc (Nat.le_refl _) _)) (by omega) ?_); intro v5 w5 hown5 hgrow; have b5 := Lib.hid (((Below.refl wr.heap.size wr).alloc (Nat.le_refl _) (.cells #[] 25)).trans (below_of_grown hgrow (by simp) (by intro k hk; injection hk; omega))); have HO5 := Lib.hid hown5; have sz5 := b5.out.size; clear hown5 hgrow)
              | ((with_reducible refine go_itsapp (.tmp 129) (.tmp 130) L a7 c7 M (by with_unfolding_all rfl) HO5.out (by with_unfolding_all rfl) HNOM.out ((HATM.out.below BW2.out).below b5.out) (by omega) sz5 ?_); intro v6 w6 hown6 hgrow; have b6 := Lib.hid (b5.out.trans (below_of_grown hgrow (by omega) (fun k e => (HO5.out.lt k e).1))); obtain ⟨a8, c8, rfl, hat8, _⟩ := its_own hown6; have HAT8 := Lib.hid hat8; clear hown6 hgrow hat8))
            have hlm : (L ++ M).length ≤ 9223372036854775807 := by rw [List.length_append]; omega
            have KC5 := check_any a8 c8 (L ++ M) w6 HAT8.out hlm
            obtain ⟨q1, hq1⟩ : ∃ q : Int, ((checkL (L ++ M)).1 : Int) = q := ⟨_, rfl⟩
            obtain ⟨q2, hq2⟩ : ∃ q : Int, (checkL (L ++ M)).2 = q := ⟨_, rfl⟩
            rw [hq1, hq2, List.length_append] at KC5
            have hlaw := join_law HGOOD.out HGOODM.out (by omega)
            rw [hq2, HMV.out, HFM.out, HFST.out] at hlaw
            have LAW := Lib.hid hlaw
            have HS6 := Lib.hid (HS2.out.below b6.out lG)
            have HF6 := Lib.hid (HF2.out.below b6.out lF)
            have BX6 := Lib.hid (BX.out.trans (b6.out.mono BX.out.size))
            have l6 : w6.heap.size ≥ wr.heap.size := b6.out.size
            clear hq1 hq2 hlaw HS2 HF2 BW2 BX b5 b6 HAT8 HO5
            with_reducible refine KC5.mono ?_
            rintro e w7 ⟨rfl, b7⟩
            have HS7 := Lib.hid (HS6.out.below b7 HS6.out.lt)
            have HF7 := Lib.hid (HF6.out.below b7 HF6.out.lt)
            have BEL := Lib.hid (BX6.out.trans (b7.mono BX6.out.size))
            have s0 := HS7.out.cell' 0 rfl
            have s1 := HS7.out.cell' 1 rfl
            have s2 := HS7.out.cell' 2 rfl
            have t0 := HF7.out.cell' 0 rfl
            have t1 := HF7.out.cell' 1 rfl
            have t2 := HF7.out.cell' 2 rfl
            clear b7 KC5 HS6 HF6 BX6
            cases mv
            · obtain rfl : q2 = 0 := LAW.out.2 (.inl rfl)
              go_wp2_with fail
              go_ret
              exact ⟨rfl, BEL.out⟩
            · have NR := fun W => eqv_run sx sy sk fx fy fz W
              by_cases he : sx = fx ∧ sy = fy ∧ sk = fz
              · obtain rfl : q2 = 0 := LAW.out.2 (.inr (.inr (by rw [he.1, he.2.1, he.2.2])))
                have ev : eqV sx sy sk fx fy fz = true := decide_eq_true he
                rw [ev] at NR
                have NR := Lib.hid NR
                clear he ev
                go_wp2_with ((with_reducible refine gd_eql 23 _ (.tmp 151) (.tmp 152) #[.int .i64 sx, .int .i64 sy, .int .i64 sk] #[.int .i64 fx, .int .i64 fy, .int .i64 fz] true (by with_unfolding_all rfl) rfl rfl (by kernel_rfl) (NR.out _) ?_))
                go_ret
                exact ⟨rfl, BEL.out⟩
              · have hq : (q2 == 0) = false := beq_eq_false_iff_ne.2 (fun h => by
                  rcases LAW.out.1 h with h | h | h
                  · cases h
                  · cases h
                  · injection h with h
                    injection h with h1 h
                    injection h with h2 h3
                    exact he ⟨h1, h2, h3⟩)
                have ev : eqV sx sy sk fx fy fz = false := decide_eq_false he
                rw [ev] at NR
                have NR := Lib.hid NR
                clear he ev
                go_wp2_with ((with_reducible refine gd_eql 23 _ (.tmp 151) (.tmp 152) #[.int .i64 sx, .int .i64 sy, .int .i64 sk] #[.int .i64 fx, .int .i64 fy, .int .i64 fz] false (by with_unfolding_all rfl) rfl rfl (by kernel_rfl) (NR.out _) ?_))
                go_ret
                exact ⟨rfl, BEL.out⟩
end Go.Proofs.YtefdjdipbnnoaaaDoor

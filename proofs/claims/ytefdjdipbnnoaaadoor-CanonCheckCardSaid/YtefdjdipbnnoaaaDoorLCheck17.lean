/-
  cnclaw17.CanonCheck: the walk.
-/
import Derived.Test.YtefdjdipbnnoaaaDoorAwake17
import Derived.Test.YtefdjdipbnnoaaaDoorStageF17
import Derived.Test.YtefdjdipbnnoaaaDoorChanged17
import Derived.Test.YtefdjdipbnnoaaaDoorRCheck17
import Derived.Test.YtefdjdipbnnoaaaDoorLists17
namespace Go.Proofs.YtefdjdipbnnoaaaDoor
open Go Go.RowKit
set_option linter.unusedVariables false
set_option linter.unusedSimpArgs false


def endI : It := { zeroI with kind := 14 }
attribute [local go_sem] itA_0 itA_1 itA_2 itA_3 itA_4 itA_5 itA_6 itA_7 itA_8 itA_9 itA_10 itA_11 itA_12 itA_13 itA_14 itA_15 itA_16 itA_17 itA_18 itA_19 itA_20 itA_21
set_option maxRecDepth 100000 in
set_option maxHeartbeats 4000000 in
theorem lcheck_walk (a0 : Option Addr) (len0 cap0 : Nat) (a1 : Option Addr) (len1 cap1 : Nat) (z1 : List Int) (a2 a3 a4 : Int) (w : World) (hE : Env w) (k0 : Leaf w (.tab itKinds) (.slice a0 len0 cap0)) (w1 : IsRow .i64 w a1 len1 cap1 z1) (hn : len1 ≤ 9223372036854775807) :
    Calls Tryd.prog 4 #[.slice a0 len0 cap0, .slice a1 len1 cap1, .int .i64 a2, .int .i64 a3, .int .i64 a4] w fun e w' => e = .returned (.bool true) ∧ Below w.heap.size w w' := by
  obtain ⟨R, hRl, hR, hmax⟩ := its_tab k0
  clear k0
  have HR := Lib.hid hR
  have HRL := Lib.hid hRl
  have HE0 := Lib.hid hE
  have hlow := hE.low
  have KL := Lib.hid (light_any w a1 len1 cap1)
  have KN := Lib.hid (tape_new w a1 len1 cap1 z1 w1 hn)
  obtain ⟨z, hz⟩ : ∃ z, (fun i => z1.getD i 0) = z := ⟨_, rfl⟩
  rw [hz] at KN
  clear hE w1 hn hz hR hRl
  go_enter Tryd.func4, Tryd.ntmps4
  by_cases h40 : 40 < len0
  · have d1 : decide (40 < len0) = true := decide_eq_true h40
    have d1' : decide (40 < (len0 : Int)) = true := decide_eq_true (by omega)
    go_wp2_with fail
    refine (awake_true _ HE0.out).mono ?_
    rintro e w1 ⟨rfl, b1⟩
    go_wp2_with fail
    go_ret
    exact ⟨rfl, b1⟩
  have d1 : decide (40 < len0) = false := decide_eq_false h40
  have d1' : decide (40 < (len0 : Int)) = false := decide_eq_false (by omega)
  go_wp2_with fail
  refine KL.out.mono ?_
  rintro e w' ⟨rfl, rfl⟩
  by_cases h120 : len1 ≤ 120
  rotate_left
  · have d2 : decide (len1 ≤ 120) = false := decide_eq_false h120
    go_wp2_with fail
    refine (awake_true _ HE0.out).mono ?_
    rintro e w1 ⟨rfl, b1⟩
    go_wp2_with fail
    go_ret
    exact ⟨rfl, b1⟩
  have d2 : decide (len1 ≤ 120) = true := decide_eq_true h120
  go_wp2_with fail
  refine KN.out.mono ?_
  rintro e w1 ⟨rfl, hs1, b1⟩
  have sz1 := b1.size
  have B1 := Lib.hid b1
  have S1 := Lib.hid hs1
  have l1 := hs1.lt
  clear hs1 b1 KN KL
  go_wp2_with fail
  refine (sitems_any w1 w.heap.size w.heap.size a1 len1 cap1 z ⟨0, S1.out⟩).mono ?_
  rintro e w2 ⟨v2, L, p, rfl, hgood, hL8, hown, G2⟩
  obtain ⟨a5, c5, rfl, hat, hno⟩ := its_own hown
  have B2 : Below w.heap.size w w2 := B1.out.trans (below_of_grown G2.gr (by omega) (fun k e => by injection e; omega))
  have sz2 := B2.size
  have B2 := Lib.hid B2
  have HAT := Lib.hid hat
  have HNO := Lib.hid hno
  have HGOOD := Lib.hid hgood
  clear hat hno hgood hown G2 S1 B1 l1 sz1 d1 d1' d2
  go_upto_region 5 with (first
    | ((with_reducible refine go_itcopy (.tmp 32) (.tmp 33) w2.heap.size a5 c5 L (by with_unfolding_all rfl) (by with_unfolding_all exact Blk.new w2 _ _) (by with_unfolding_all rfl) HNO.out (HAT.out.below ((Below.refl _ _).alloc (Nat.le_refl _) _)) (by omega) ?_); intro v5 w5 hown5 hgrow; have b5 := Lib.hid (((Below.refl w2.heap.size w2).alloc (Nat.le_refl _) (.cells #[] 25)).trans (below_of_grown hgrow (by simp) (by intro k hk; injection hk; omega))); obtain ⟨a6, c6, rfl, hat6, hno6, hf6⟩ := its_form2 hown5; have HAT6 := Lib.hid hat6; have HF6 := Lib.hid hf6; clear hown5 hgrow hat6 hf6 hno6))
  have B5 := Lib.hid (B2.out.trans (b5.out.mono sz2))
  by_cases hl0 : 0 < L.length
  rotate_left
  · have d3 : decide (0 < L.length) = false := decide_eq_false hl0
    have d3' : decide (0 < (L.length : Int)) = false := decide_eq_false (by omega)
    go_upto_region 10 with fail
    have h3a := HAT6.out
    have h3b := b5.out
    obtain ⟨L3, hL3⟩ : ∃ L3, L = L3 := ⟨_, rfl⟩
    have hl3 : L3.length = L.length := by rw [hL3]
    have h3a : ItsAt w5 a6 L3 := by rw [← hL3]; exact h3a
    clear hL3
    have B8 := B5
    clear b5 B5 HAT6 HF6
    generalize w5 = W8 at h3a h3b B8 ⊢
    have HB3 := Lib.hid (h3a : ItsAt W8 a6 L3)
    have HA3 := Lib.hid (HAT.out.below h3b : ItsAt W8 a5 L)
    have HR3 := Lib.hid (HR.out.below B8.out : ItsAt W8 a0 R)
    clear h3a h3b
    go_wp2_with fail
    go_loopw [64] (fun s64 wr => ∃ i : Nat, i ≤ 3 ∧ s64 = .int .i64 i ∧ Blk wr W8.heap.size 37 #[.slice a0 len0 cap0, .slice a5 L.length c5, .slice a6 L.length c6] ∧ Below W8.heap.size W8 wr)
      (fun s64 _ => 3 - (intOf s64).toNat)
    case atStart => exact ⟨0, by omega, rfl, Blk.new _ _ _, (Below.refl _ _).alloc (Nat.le_refl _) _⟩
    case round =>
      obtain ⟨i, hi, rfl, hblk, bw⟩ := hrel
      have szr := bw.size
      by_cases hi3 : i < 3
      · have hcase : i = 0 ∨ i = 1 ∨ i = 2 := by omega
        clear hi hi3
        rcases hcase with rfl | rfl | rfl
        · have c0 : wr.cell? ⟨W8.heap.size, 0, none⟩ = some (.slice a0 len0 cap0) := hblk.cell' 0 rfl
          have KC := check_any a0 cap0 R wr (HR3.out.below bw) (by have := HRL.out; omega)
          have KR := fun W (b : Below wr.heap.size wr W) => rcheckL_any a0 cap0 R W ((HR3.out.below bw).below b) (by have := HRL.out; omega)
          rw [HRL.out] at KC
          simp only [HRL.out] at KR
          obtain ⟨qi, hqi⟩ : ∃ q : Int, ((checkL R).1 : Int) = q := ⟨_, rfl⟩
          obtain ⟨qe, hqe⟩ : ∃ q : Int, (checkL R).2 = q := ⟨_, rfl⟩
          rw [hqi, hqe] at KC KR
          have KC := Lib.hid KC
          have KR := Lib.hid KR
          have HB := Lib.hid hblk
          have BW := Lib.hid bw
          clear hqi hqe hblk bw
          go_wp2_with fail
          refine KC.out.mono ?_
          rintro e w6 ⟨rfl, b6⟩
          have B6 := Lib.hid b6
          clear b6 KC
          go_wp2_with fail
          refine (KR.out w6 B6.out).mono ?_
          rintro e w7 ⟨rfl, b7⟩
          have B7 := Lib.hid b7
          clear b7 KR
          go_wp2_with fail
          go_roundw
          case rel => exact ⟨1, by omega, by go_num, (HB.out.below B6.out HB.out.lt).below B7.out (HB.out.below B6.out HB.out.lt).lt, (BW.out.trans (B6.out.mono BW.out.size)).trans (B7.out.mono (by have := BW.out.size; have := B6.out.size; omega))⟩
          case measure => simp [intOf] <;> omega
        · have c0 : wr.cell? ⟨W8.heap.size, 1, none⟩ = some (.slice a5 L.length c5) := hblk.cell' 1 rfl
          have KC := check_any a5 c5 L wr (HA3.out.below bw) (by omega)
          have KR := fun W (b : Below wr.heap.size wr W) => rcheckL_any a5 c5 L W ((HA3.out.below bw).below b) (by omega)
          obtain ⟨qi, hqi⟩ : ∃ q : Int, ((checkL L).1 : Int) = q := ⟨_, rfl⟩
          obtain ⟨qe, hqe⟩ : ∃ q : Int, (checkL L).2 = q := ⟨_, rfl⟩
          rw [hqi, hqe] at KC KR
          have KC := Lib.hid KC
          have KR := Lib.hid KR
          have HB := Lib.hid hblk
          have BW := Lib.hid bw
          clear hqi hqe hblk bw
          go_wp2_with fail
          refine KC.out.mono ?_
          rintro e w6 ⟨rfl, b6⟩
          have B6 := Lib.hid b6
          clear b6 KC
          go_wp2_with fail
          refine (KR.out w6 B6.out).mono ?_
          rintro e w7 ⟨rfl, b7⟩
          have B7 := Lib.hid b7
          clear b7 KR
          go_wp2_with fail
          go_roundw
          case rel => exact ⟨2, by omega, by go_num, (HB.out.below B6.out HB.out.lt).below B7.out (HB.out.below B6.out HB.out.lt).lt, (BW.out.trans (B6.out.mono BW.out.size)).trans (B7.out.mono (by have := BW.out.size; have := B6.out.size; omega))⟩
          case measure => simp [intOf] <;> omega
        · have c0 : wr.cell? ⟨W8.heap.size, 2, none⟩ = some (.slice a6 L.length c6) := hblk.cell' 2 rfl
          have KC := check_any a6 c6 L3 wr (HB3.out.below bw) (by rw [hl3]; omega)
          have KR := fun W (b : Below wr.heap.size wr W) => rcheckL_any a6 c6 L3 W ((HB3.out.below bw).below b) (by rw [hl3]; omega)
          rw [hl3] at KC
          simp only [hl3] at KR
          obtain ⟨qi, hqi⟩ : ∃ q : Int, ((checkL L3).1 : Int) = q := ⟨_, rfl⟩
          obtain ⟨qe, hqe⟩ : ∃ q : Int, (checkL L3).2 = q := ⟨_, rfl⟩
          rw [hqi, hqe] at KC KR
          have KC := Lib.hid KC
          have KR := Lib.hid KR
          have HB := Lib.hid hblk
          have BW := Lib.hid bw
          clear hqi hqe hblk bw
          go_wp2_with fail
          refine KC.out.mono ?_
          rintro e w6 ⟨rfl, b6⟩
          have B6 := Lib.hid b6
          clear b6 KC
          go_wp2_with fail
          refine (KR.out w6 B6.out).mono ?_
          rintro e w7 ⟨rfl, b7⟩
          have B7 := Lib.hid b7
          clear b7 KR
          go_wp2_with fail
          go_roundw
          case rel => exact ⟨3, by omega, by go_num, (HB.out.below B6.out HB.out.lt).below B7.out (HB.out.below B6.out HB.out.lt).lt, (BW.out.trans (B6.out.mono BW.out.size)).trans (B7.out.mono (by have := BW.out.size; have := B6.out.size; omega))⟩
          case measure => simp [intOf] <;> omega
      · obtain rfl : i = 3 := by omega
        have BF := Lib.hid (B8.out.trans (bw.mono B8.out.size))
        clear hblk bw
        go_wp2_with fail
        refine (awake_true _ (HE0.out.below BF.out hlow)).mono ?_
        rintro e w9 ⟨rfl, b9⟩
        go_wp2_with fail
        go_ret
        exact ⟨rfl, BF.out.trans (b9.mono BF.out.size)⟩
  · have d3 : decide (0 < L.length) = true := decide_eq_true hl0
    have d3' : decide (0 < (L.length : Int)) = true := decide_eq_true (by omega)
    obtain ⟨g6, rfl, hown6⟩ := HF6.out hl0
    have HO := Lib.hid hown6
    have hg6 : w2.heap.size ≤ g6 := hown6.1
    have hr1 := Int.emod_nonneg a2 (show (L.length : Int) ≠ 0 by omega)
    have hr2 := Int.emod_lt_of_pos a2 (show (0 : Int) < (L.length : Int) by omega)
    have hq1 := Int.emod_nonneg a3 (show (20 : Int) ≠ 0 by omega)
    have hmd := mod_any a2 (L.length : Int) w5 (by omega) (by omega)
    have hmq := mod_any a3 20 w5 (by omega) (by omega)
    obtain ⟨k, hk⟩ : ∃ k : Nat, a2 % (L.length : Int) = (k : Int) := ⟨(a2 % (L.length : Int)).toNat, by omega⟩
    obtain ⟨q, hq⟩ : ∃ q : Int, a3 % 20 = q := ⟨_, rfl⟩
    rw [hk] at hmd hr1 hr2
    rw [hq] at hmq
    have hkl : k < L.length := by omega
    have KM := Lib.hid hmd
    have KQ := Lib.hid hmq
    obtain ⟨x, hx⟩ : ∃ x, L[k]? = some x := ⟨_, List.getElem?_eq_getElem hkl⟩
    obtain ⟨b, o, eb, _, hc⟩ := hown6.at' k x hx
    injection eb with eb
    injection eb with eb1 eb2
    subst eb1 eb2
    rw [Nat.zero_add] at hc
    have HC := Lib.hid hc
    clear hk hq hq1 hmd hmq hown6 hc hx
    go_wp2_with fail
    refine KM.out.mono ?_
    rintro e w6 ⟨rfl, rfl⟩
    go_wp2_with fail
    refine KQ.out.mono ?_
    rintro e w6 ⟨rfl, rfl⟩
    clear KM KQ
    by_cases hq : q < 16
    · have dq : decide (q < 16) = true := decide_eq_true hq
      go_wp2_with (first
        | ((with_reducible refine go_loadM (.tmp 49) g6 (k * 22) x (by with_unfolding_all rfl) HC.out ?_)))
      refine (changed_any x a3 a4 w5).mono ?_
      rintro e w7 ⟨j, rfl, b7⟩
      obtain ⟨hset, hth⟩ := (HO.out.below b7).set hkl j
      have HT := Lib.hid hth
      have h3b := below_cells hg6 (itA j).toList (k * 22) _ (b5.out.trans (b7.mono b5.out.size))
      have h3a := hset
      obtain ⟨L3, hL3⟩ : ∃ L3, L.set k j = L3 := ⟨_, rfl⟩
      have hl3 : L3.length = L.length := by rw [← hL3, List.length_set]
      rw [hL3] at h3a
      have B8 := Lib.hid (B2.out.trans (h3b.mono sz2))
      clear hset hth b7 hL3
      go_upto_region 10 with (first
        | ((with_reducible refine go_storeM (.tmp 54) (.tmp 53) g6 (k * 22) j (by with_unfolding_all rfl) (by with_unfolding_all rfl) HT.out ?_)))
      obtain ⟨a6, ha6⟩ : ∃ a : Option Addr, some ⟨g6, 0, none⟩ = a := ⟨_, rfl⟩
      rw [ha6] at h3a
      clear b5 B5 HAT6 HF6 HT HC HO
      generalize w7.setCells g6 (k * 22) (itA j).toList = W8 at h3a h3b B8 ⊢
      rw [ha6]
      clear ha6
      have HB3 := Lib.hid (h3a : ItsAt W8 a6 L3)
      have HA3 := Lib.hid (HAT.out.below h3b : ItsAt W8 a5 L)
      have HR3 := Lib.hid (HR.out.below B8.out : ItsAt W8 a0 R)
      clear h3a h3b
      go_wp2_with fail
      go_loopw [64] (fun s64 wr => ∃ i : Nat, i ≤ 3 ∧ s64 = .int .i64 i ∧ Blk wr W8.heap.size 37 #[.slice a0 len0 cap0, .slice a5 L.length c5, .slice a6 L.length c6] ∧ Below W8.heap.size W8 wr)
        (fun s64 _ => 3 - (intOf s64).toNat)
      case atStart => exact ⟨0, by omega, rfl, Blk.new _ _ _, (Below.refl _ _).alloc (Nat.le_refl _) _⟩
      case round =>
        obtain ⟨i, hi, rfl, hblk, bw⟩ := hrel
        have szr := bw.size
        by_cases hi3 : i < 3
        · have hcase : i = 0 ∨ i = 1 ∨ i = 2 := by omega
          clear hi hi3
          rcases hcase with rfl | rfl | rfl
          · have c0 : wr.cell? ⟨W8.heap.size, 0, none⟩ = some (.slice a0 len0 cap0) := hblk.cell' 0 rfl
            have KC := check_any a0 cap0 R wr (HR3.out.below bw) (by have := HRL.out; omega)
            have KR := fun W (b : Below wr.heap.size wr W) => rcheckL_any a0 cap0 R W ((HR3.out.below bw).below b) (by have := HRL.out; omega)
            rw [HRL.out] at KC
            simp only [HRL.out] at KR
            obtain ⟨qi, hqi⟩ : ∃ q : Int, ((checkL R).1 : Int) = q := ⟨_, rfl⟩
            obtain ⟨qe, hqe⟩ : ∃ q : Int, (checkL R).2 = q := ⟨_, rfl⟩
            rw [hqi, hqe] at KC KR
            have KC := Lib.hid KC
            have KR := Lib.hid KR
            have HB := Lib.hid hblk
            have BW := Lib.hid bw
            clear hqi hqe hblk bw
            go_wp2_with fail
            refine KC.out.mono ?_
            rintro e w6 ⟨rfl, b6⟩
            have B6 := Lib.hid b6
            clear b6 KC
            go_wp2_with fail
            refine (KR.out w6 B6.out).mono ?_
            rintro e w7 ⟨rfl, b7⟩
            have B7 := Lib.hid b7
            clear b7 KR
            go_wp2_with fail
            go_roundw
            case rel => exact ⟨1, by omega, by go_num, (HB.out.below B6.out HB.out.lt).below B7.out (HB.out.below B6.out HB.out.lt).lt, (BW.out.trans (B6.out.mono BW.out.size)).trans (B7.out.mono (by have := BW.out.size; have := B6.out.size; omega))⟩
            case measure => simp [intOf] <;> omega
          · have c0 : wr.cell? ⟨W8.heap.size, 1, none⟩ = some (.slice a5 L.length c5) := hblk.cell' 1 rfl
            have KC := check_any a5 c5 L wr (HA3.out.below bw) (by omega)
            have KR := fun W (b : Below wr.heap.size wr W) => rcheckL_any a5 c5 L W ((HA3.out.below bw).below b) (by omega)
            obtain ⟨qi, hqi⟩ : ∃ q : Int, ((checkL L).1 : Int) = q := ⟨_, rfl⟩
            obtain ⟨qe, hqe⟩ : ∃ q : Int, (checkL L).2 = q := ⟨_, rfl⟩
            rw [hqi, hqe] at KC KR
            have KC := Lib.hid KC
            have KR := Lib.hid KR
            have HB := Lib.hid hblk
            have BW := Lib.hid bw
            clear hqi hqe hblk bw
            go_wp2_with fail
            refine KC.out.mono ?_
            rintro e w6 ⟨rfl, b6⟩
            have B6 := Lib.hid b6
            clear b6 KC
            go_wp2_with fail
            refine (KR.out w6 B6.out).mono ?_
            rintro e w7 ⟨rfl, b7⟩
            have B7 := Lib.hid b7
            clear b7 KR
            go_wp2_with fail
            go_roundw
            case rel => exact ⟨2, by omega, by go_num, (HB.out.below B6.out HB.out.lt).below B7.out (HB.out.below B6.out HB.out.lt).lt, (BW.out.trans (B6.out.mono BW.out.size)).trans (B7.out.mono (by have := BW.out.size; have := B6.out.size; omega))⟩
            case measure => simp [intOf] <;> omega
          · have c0 : wr.cell? ⟨W8.heap.size, 2, none⟩ = some (.slice a6 L.length c6) := hblk.cell' 2 rfl
            have KC := check_any a6 c6 L3 wr (HB3.out.below bw) (by rw [hl3]; omega)
            have KR := fun W (b : Below wr.heap.size wr W) => rcheckL_any a6 c6 L3 W ((HB3.out.below bw).below b) (by rw [hl3]; omega)
            rw [hl3] at KC
            simp only [hl3] at KR
            obtain ⟨qi, hqi⟩ : ∃ q : Int, ((checkL L3).1 : Int) = q := ⟨_, rfl⟩
            obtain ⟨qe, hqe⟩ : ∃ q : Int, (checkL L3).2 = q := ⟨_, rfl⟩
            rw [hqi, hqe] at KC KR
            have KC := Lib.hid KC
            have KR := Lib.hid KR
            have HB := Lib.hid hblk
            have BW := Lib.hid bw
            clear hqi hqe hblk bw
            go_wp2_with fail
            refine KC.out.mono ?_
            rintro e w6 ⟨rfl, b6⟩
            have B6 := Lib.hid b6
            clear b6 KC
            go_wp2_with fail
            refine (KR.out w6 B6.out).mono ?_
            rintro e w7 ⟨rfl, b7⟩
            have B7 := Lib.hid b7
            clear b7 KR
            go_wp2_with fail
            go_roundw
            case rel => exact ⟨3, by omega, by go_num, (HB.out.below B6.out HB.out.lt).below B7.out (HB.out.below B6.out HB.out.lt).lt, (BW.out.trans (B6.out.mono BW.out.size)).trans (B7.out.mono (by have := BW.out.size; have := B6.out.size; omega))⟩
            case measure => simp [intOf] <;> omega
        · obtain rfl : i = 3 := by omega
          have BF := Lib.hid (B8.out.trans (bw.mono B8.out.size))
          clear hblk bw
          go_wp2_with fail
          refine (awake_true _ (HE0.out.below BF.out hlow)).mono ?_
          rintro e w9 ⟨rfl, b9⟩
          go_wp2_with fail
          go_ret
          exact ⟨rfl, BF.out.trans (b9.mono BF.out.size)⟩
    · have dq : decide (q < 16) = false := decide_eq_false hq
      obtain ⟨hset, hth⟩ := HO.out.set hkl endI
      have HT := Lib.hid hth
      have h3b := below_cells hg6 (itA endI).toList (k * 22) _ b5.out
      have h3a := hset
      obtain ⟨L3, hL3⟩ : ∃ L3, L.set k endI = L3 := ⟨_, rfl⟩
      have hl3 : L3.length = L.length := by rw [← hL3, List.length_set]
      rw [hL3] at h3a
      have B8 := Lib.hid (B2.out.trans (h3b.mono sz2))
      clear hset hth hL3
      go_upto_region 10 with (first
        | ((with_reducible refine go_built 25 #[(0, .const (.int .i64 14))] (itA endI) (by with_unfolding_all kernel_rfl) ?_))
        | ((with_reducible refine go_storeM (.tmp 58) (.tmp 57) g6 (k * 22) endI (by with_unfolding_all rfl) (by with_unfolding_all rfl) HT.out ?_)))
      obtain ⟨a6, ha6⟩ : ∃ a : Option Addr, some ⟨g6, 0, none⟩ = a := ⟨_, rfl⟩
      rw [ha6] at h3a
      clear b5 B5 HAT6 HF6 HT HC HO
      generalize w5.setCells g6 (k * 22) (itA endI).toList = W8 at h3a h3b B8 ⊢
      rw [ha6]
      clear ha6
      have HB3 := Lib.hid (h3a : ItsAt W8 a6 L3)
      have HA3 := Lib.hid (HAT.out.below h3b : ItsAt W8 a5 L)
      have HR3 := Lib.hid (HR.out.below B8.out : ItsAt W8 a0 R)
      clear h3a h3b
      go_wp2_with fail
      go_loopw [64] (fun s64 wr => ∃ i : Nat, i ≤ 3 ∧ s64 = .int .i64 i ∧ Blk wr W8.heap.size 37 #[.slice a0 len0 cap0, .slice a5 L.length c5, .slice a6 L.length c6] ∧ Below W8.heap.size W8 wr)
        (fun s64 _ => 3 - (intOf s64).toNat)
      case atStart => exact ⟨0, by omega, rfl, Blk.new _ _ _, (Below.refl _ _).alloc (Nat.le_refl _) _⟩
      case round =>
        obtain ⟨i, hi, rfl, hblk, bw⟩ := hrel
        have szr := bw.size
        by_cases hi3 : i < 3
        · have hcase : i = 0 ∨ i = 1 ∨ i = 2 := by omega
          clear hi hi3
          rcases hcase with rfl | rfl | rfl
          · have c0 : wr.cell? ⟨W8.heap.size, 0, none⟩ = some (.slice a0 len0 cap0) := hblk.cell' 0 rfl
            have KC := check_any a0 cap0 R wr (HR3.out.below bw) (by have := HRL.out; omega)
            have KR := fun W (b : Below wr.heap.size wr W) => rcheckL_any a0 cap0 R W ((HR3.out.below bw).below b) (by have := HRL.out; omega)
            rw [HRL.out] at KC
            simp only [HRL.out] at KR
            obtain ⟨qi, hqi⟩ : ∃ q : Int, ((checkL R).1 : Int) = q := ⟨_, rfl⟩
            obtain ⟨qe, hqe⟩ : ∃ q : Int, (checkL R).2 = q := ⟨_, rfl⟩
            rw [hqi, hqe] at KC KR
            have KC := Lib.hid KC
            have KR := Lib.hid KR
            have HB := Lib.hid hblk
            have BW := Lib.hid bw
            clear hqi hqe hblk bw
            go_wp2_with fail
            refine KC.out.mono ?_
            rintro e w6 ⟨rfl, b6⟩
            have B6 := Lib.hid b6
            clear b6 KC
            go_wp2_with fail
            refine (KR.out w6 B6.out).mono ?_
            rintro e w7 ⟨rfl, b7⟩
            have B7 := Lib.hid b7
            clear b7 KR
            go_wp2_with fail
            go_roundw
            case rel => exact ⟨1, by omega, by go_num, (HB.out.below B6.out HB.out.lt).below B7.out (HB.out.below B6.out HB.out.lt).lt, (BW.out.trans (B6.out.mono BW.out.size)).trans (B7.out.mono (by have := BW.out.size; have := B6.out.size; omega))⟩
            case measure => simp [intOf] <;> omega
          · have c0 : wr.cell? ⟨W8.heap.size, 1, none⟩ = some (.slice a5 L.length c5) := hblk.cell' 1 rfl
            have KC := check_any a5 c5 L wr (HA3.out.below bw) (by omega)
            have KR := fun W (b : Below wr.heap.size wr W) => rcheckL_any a5 c5 L W ((HA3.out.below bw).below b) (by omega)
            obtain ⟨qi, hqi⟩ : ∃ q : Int, ((checkL L).1 : Int) = q := ⟨_, rfl⟩
            obtain ⟨qe, hqe⟩ : ∃ q : Int, (checkL L).2 = q := ⟨_, rfl⟩
            rw [hqi, hqe] at KC KR
            have KC := Lib.hid KC
            have KR := Lib.hid KR
            have HB := Lib.hid hblk
            have BW := Lib.hid bw
            clear hqi hqe hblk bw
            go_wp2_with fail
            refine KC.out.mono ?_
            rintro e w6 ⟨rfl, b6⟩
            have B6 := Lib.hid b6
            clear b6 KC
            go_wp2_with fail
            refine (KR.out w6 B6.out).mono ?_
            rintro e w7 ⟨rfl, b7⟩
            have B7 := Lib.hid b7
            clear b7 KR
            go_wp2_with fail
            go_roundw
            case rel => exact ⟨2, by omega, by go_num, (HB.out.below B6.out HB.out.lt).below B7.out (HB.out.below B6.out HB.out.lt).lt, (BW.out.trans (B6.out.mono BW.out.size)).trans (B7.out.mono (by have := BW.out.size; have := B6.out.size; omega))⟩
            case measure => simp [intOf] <;> omega
          · have c0 : wr.cell? ⟨W8.heap.size, 2, none⟩ = some (.slice a6 L.length c6) := hblk.cell' 2 rfl
            have KC := check_any a6 c6 L3 wr (HB3.out.below bw) (by rw [hl3]; omega)
            have KR := fun W (b : Below wr.heap.size wr W) => rcheckL_any a6 c6 L3 W ((HB3.out.below bw).below b) (by rw [hl3]; omega)
            rw [hl3] at KC
            simp only [hl3] at KR
            obtain ⟨qi, hqi⟩ : ∃ q : Int, ((checkL L3).1 : Int) = q := ⟨_, rfl⟩
            obtain ⟨qe, hqe⟩ : ∃ q : Int, (checkL L3).2 = q := ⟨_, rfl⟩
            rw [hqi, hqe] at KC KR
            have KC := Lib.hid KC
            have KR := Lib.hid KR
            have HB := Lib.hid hblk
            have BW := Lib.hid bw
            clear hqi hqe hblk bw
            go_wp2_with fail
            refine KC.out.mono ?_
            rintro e w6 ⟨rfl, b6⟩
            have B6 := Lib.hid b6
            clear b6 KC
            go_wp2_with fail
            refine (KR.out w6 B6.out).mono ?_
            rintro e w7 ⟨rfl, b7⟩
            have B7 := Lib.hid b7
            clear b7 KR
            go_wp2_with fail
            go_roundw
            case rel => exact ⟨3, by omega, by go_num, (HB.out.below B6.out HB.out.lt).below B7.out (HB.out.below B6.out HB.out.lt).lt, (BW.out.trans (B6.out.mono BW.out.size)).trans (B7.out.mono (by have := BW.out.size; have := B6.out.size; omega))⟩
            case measure => simp [intOf] <;> omega
        · obtain rfl : i = 3 := by omega
          have BF := Lib.hid (B8.out.trans (bw.mono B8.out.size))
          clear hblk bw
          go_wp2_with fail
          refine (awake_true _ (HE0.out.below BF.out hlow)).mono ?_
          rintro e w9 ⟨rfl, b9⟩
          go_wp2_with fail
          go_ret
          exact ⟨rfl, BF.out.trans (b9.mono BF.out.size)⟩
end Go.Proofs.YtefdjdipbnnoaaaDoor
